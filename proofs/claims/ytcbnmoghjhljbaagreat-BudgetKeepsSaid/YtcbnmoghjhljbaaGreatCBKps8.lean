/-
  Objects whose rows fit, whatever their values: of these the default's rows fit too; with values that read so they are objects that are read; The walks of the store's Delete and Get, of any store; an object that is there is some object's cells.; The walk of the store's Delete, of any store.; The law's own model: where an object is (find); The law's own model: an event is noted; A store and the law's own model beside it: what holds of both; The walk of valid.Clone and valid.Default of an object all of whose slices are nil.; The walk of valid.Default of an object (of no group, no hpa) all of whose slices are nil; label.Right of none; quant.Right; size; node.; The walks of valid.size, named, between, node at the law's small node.; The walk of valid.Check of an object of kind 2 whose node is the law's small one.; The walk of trimtablaw08.node: the law's small node; its cells as a row.; The walk of trimtablaw08.lives.; The law's small node: valid.empties of it; the chapter's example of layer 8 is true.; The law's act on a store and on its own model (under way: the beginning).; The law's act: Delete.; The law's act: Delete of what is there, at its version (or at none).; The law's act: an object that may not be.; A row of one object, built; a whole object, read in a drawn region.; The law's act: Create, taken.; The law's act: Update, refused.; The law's act: Update, taken.; A store and the law's model beside it hold the same: what each act keeps of that; The law's act in all its ways: store and model hold the same behind it; The law's act, of any act whose rows lie below store and model: it returns true, and both hold the same behind it.; The law's act, whole: of any act whose object's rows lie below store and model it returns true, and both hold the same behind it.; The law's few: some bool comes back; true only where there are at most 60 acts.; The store's List: plain words (a store's contents, its names of a kind in order), the closure that comes back, and a key of the store's map, opened.; The kit's contract on slices.Sort at []string, laid at this dump, in plain words; The store's List: each object of a kind comes, a copy of it, in the order of names.; Whatever object may be is short: no text and no row of it is long; The law's is: what it leans on; StoreFollows: plain words: names, kept up by the events; how many are still to come; The law's is: of a store and a model that hold the same, it returns true.; StoreFollows: the law's walk.; What StorePlays needs beside the acts: Since of a version that is not yet; a copy of a store and of the law's model beside it hold what both held; a region that draws its order, in which more than one operation may be ready.; A store by itself (no model beside it): what Create, Update, Delete and Get do to what it holds; The store's List, where the body turns the store (its names of the kind stay): each object of the kind comes, a copy of what is there then, in the order of names.; The walk of pods.Next (out of XPods, at other imports).; PodsPass, plain words: what a pass makes of what a store holds; PodsPass, plain words: a valid pod that gets on stays valid; what a store holds may be said with other values of rows.; PodsPass: what the walk of the pass needs: what marks keep, loads and stores of parts of objects in a round, pods.same.; PodsPass: the walk of pods.Pass, of any store of at most so many changes and objects, at a tick that may be.; PodsPass: pods.Pass at a tick that may not be, and of no store.; PodsPass, plain words: a pass behind a pass turns nothing; what the law meets at each object.; PodsPass: a copy of a store stays as it is while the store is turned.; The walk of trimtablaw14.Stocked: no store, or one that holds at most 60 valid objects, each name of a kind once.
-/
import Derived.Test.YtcbnmoghjhljbaaGreatCBKps7
import Derived.Test.YtcbnmoghjhljbaaGreatCBKps4
import Derived.Test.YtcbnmoghjhljbaaGreatCBKps5
import Derived.Test.YtcbnmoghjhljbaaGreatCBKps1
import Derived.BigRegion
import Derived.Lib.SliceRun
import Derived.WalkSpells
import Derived.Deep.DeepCutAuto
import Derived.Test.YtcbnmoghjhljbaaGreatCBKps3
import Derived.Lib.QuietBelow
import Derived.BigQuiet
import Derived.Great.FillDense
import Derived.Great.BuildSlice
import Derived.Maps.RangeWalk
import Derived.Sort.OwnSorted
import Derived.Shelf.SortM.Plain
import Derived.Shelf.SortM.SortNone
import Derived.Ground.SlgmProg
import Derived.Test.YtcbnmoghjhljbaaGreatProg
import Derived.RangeFuncIn
import Derived.OwnWalkIn
import Derived.TacticsInMore
import Derived.LoopIn
import Derived.Test.YtcbnmoghjhljbaaGreatCBKps6
import Derived.RangeFuncWrites
import Derived.Sort.Walk0
section
namespace Go.Proofs.Mem
open Go.RowKit
set_option linter.unusedVariables false
set_option linter.unusedSimpArgs false
def Row.Fit {α : Type} (r : Row α) (bytes : Nat) (p : α → Prop) : Prop := r.l.length * bytes ≤ reachBytes ∧ ∀ x ∈ r.l, p x
structure Wl.Fit (x : Wl) : Prop where
  replicas : wfi .i64 x.replicas
  cpu : wfi .i64 x.cpu
  mem : wfi .i64 x.mem
  labels : x.labels.Fit 32 Lab.Wf
  select : x.select.Fit 40 Req.Wf
  tolerate : x.tolerate.Fit 32 Lab.Wf
  warm : wfi .i64 x.warm
structure Pd.Fit (x : Pd) : Prop where
  owner : wfs x.owner
  node : wfs x.node
  phase : wfi .i64 x.phase
  since : wfi .i64 x.since
  cpu : wfi .i64 x.cpu
  mem : wfi .i64 x.mem
  labels : x.labels.Fit 32 Lab.Wf
  select : x.select.Fit 40 Req.Wf
  tolerate : x.tolerate.Fit 32 Lab.Wf
  warm : wfi .i64 x.warm
structure Nd.Fit (x : Nd) : Prop where
  group : wfs x.group
  cpu : wfi .i64 x.cpu
  mem : wfi .i64 x.mem
  labels : x.labels.Fit 32 Lab.Wf
  taints : x.taints.Fit 32 Lab.Wf
  since : wfi .i64 x.since
structure Gr.Fit (x : Gr) : Prop where
  min : wfi .i64 x.min
  max : wfi .i64 x.max
  target : wfi .i64 x.target
  cpu : wfi .i64 x.cpu
  mem : wfi .i64 x.mem
  labels : x.labels.Fit 32 Lab.Wf
  taints : x.taints.Fit 32 Lab.Wf
  priority : wfi .i64 x.priority
structure Bh.Fit (x : Bh) : Prop where
  window : wfi .i64 x.window
  pick : wfi .i64 x.pick
  policies : x.policies.Fit 24 Pol.Wf
structure Hp.Fit (x : Hp) : Prop where
  target : wfs x.target
  min : wfi .i64 x.min
  max : wfi .i64 x.max
  metrics : x.metrics.Fit 32 Met.Wf
  tolerance : wfi .i64 x.tolerance
  up : x.up.Fit
  down : x.down.Fit
  past : x.past.Fit 24 Done.Wf
structure Ob.Fit (o : Ob) : Prop where
  kind : wfi .i64 o.kind
  name : wfs o.name
  version : wfi .u64 o.version
  w : o.w.Fit
  p : o.p.Fit
  n : o.n.Fit
  g : o.g.Fit
  h : o.h.Fit
theorem Ob.Ok.fit {o : Ob} {w : World} (h : o.Ok w) : o.Fit :=
  ⟨h.kind, h.name, h.version, ⟨h.w.replicas, h.w.cpu, h.w.mem, h.w.labels.2, h.w.select.2, h.w.tolerate.2, h.w.warm⟩,
    ⟨h.p.owner, h.p.node, h.p.phase, h.p.since, h.p.cpu, h.p.mem, h.p.labels.2, h.p.select.2, h.p.tolerate.2, h.p.warm⟩,
    ⟨h.n.group, h.n.cpu, h.n.mem, h.n.labels.2, h.n.taints.2, h.n.since⟩,
    ⟨h.g.min, h.g.max, h.g.target, h.g.cpu, h.g.mem, h.g.labels.2, h.g.taints.2, h.g.priority⟩,
    ⟨h.h.target, h.h.min, h.h.max, h.h.metrics.2, h.h.tolerance, ⟨h.h.up.window, h.h.up.pick, h.h.up.policies.2⟩, ⟨h.h.down.window, h.h.down.pick, h.h.down.policies.2⟩, h.h.past.2⟩⟩
theorem Ob.Fit.ok {o : Ob} {w : World} {B : Nat} {V : Nat → Value} (h : o.Fit) (hn : o.News w B V) : (o.reval V).Ok w :=
  ⟨h.kind, h.name, h.version, ⟨h.w.replicas, h.w.cpu, h.w.mem, ⟨(hn 6 (by decide)).1, h.w.labels⟩, ⟨(hn 7 (by decide)).1, h.w.select⟩, ⟨(hn 8 (by decide)).1, h.w.tolerate⟩, h.w.warm⟩,
    ⟨h.p.owner, h.p.node, h.p.phase, h.p.since, h.p.cpu, h.p.mem, ⟨(hn 16 (by decide)).1, h.p.labels⟩, ⟨(hn 17 (by decide)).1, h.p.select⟩, ⟨(hn 18 (by decide)).1, h.p.tolerate⟩, h.p.warm⟩,
    ⟨h.n.group, h.n.cpu, h.n.mem, ⟨(hn 23 (by decide)).1, h.n.labels⟩, ⟨(hn 24 (by decide)).1, h.n.taints⟩, h.n.since⟩,
    ⟨h.g.min, h.g.max, h.g.target, h.g.cpu, h.g.mem, ⟨(hn 32 (by decide)).1, h.g.labels⟩, ⟨(hn 33 (by decide)).1, h.g.taints⟩, h.g.priority⟩,
    ⟨h.h.target, h.h.min, h.h.max, ⟨(hn 38 (by decide)).1, h.h.metrics⟩, h.h.tolerance, ⟨h.h.up.window, h.h.up.pick, ⟨(hn 42 (by decide)).1, h.h.up.policies⟩⟩, ⟨h.h.down.window, h.h.down.pick, ⟨(hn 45 (by decide)).1, h.h.down.policies⟩⟩, ⟨(hn 46 (by decide)).1, h.h.past⟩⟩⟩
theorem Bh.Fit.shape {b : Bh} (h : b.Fit) {d : List Pol} (hd : d.length * 24 ≤ reachBytes ∧ ∀ x ∈ d, x.Wf) : (b.shape d).Fit := by
  refine ⟨h.window, h.pick, ?_⟩
  show (shapeL _ _ _).length * 24 ≤ reachBytes ∧ ∀ x ∈ shapeL _ _ _, Pol.Wf x
  unfold shapeL
  split
  · exact hd
  · exact h.policies
theorem Ob.Fit.dflt {o : Ob} (h : o.Fit) : o.dflt.Fit := by
  unfold Ob.dflt
  split
  · exact ⟨h.kind, h.name, h.version, h.w, h.p, h.n, h.g, ⟨h.h.target, h.h.min, h.h.max, h.h.metrics, h.h.tolerance, h.h.up.shape ⟨by decide, fun x hx => by simp only [List.mem_cons, List.not_mem_nil, or_false] at hx; rcases hx with rfl | rfl <;> exact ⟨rfl, rfl⟩⟩, h.h.down.shape ⟨by decide, fun x hx => by simp only [List.mem_cons, List.not_mem_nil, or_false] at hx; subst hx; exact ⟨rfl, rfl⟩⟩, h.h.past⟩⟩
  · split
    · refine ⟨h.kind, h.name, h.version, h.w, h.p, h.n, ⟨h.g.min, h.g.max, ?_, h.g.cpu, h.g.mem, h.g.labels, h.g.taints, h.g.priority⟩, h.h⟩
      show wfi .i64 (Min.min (Max.max o.g.target o.g.min) o.g.max)
      rcases Int.le_total o.g.target o.g.min with h1 | h1
      · rw [Int.max_eq_right h1]
        rcases Int.le_total o.g.min o.g.max with h2 | h2
        · rw [Int.min_eq_left h2]; exact h.g.min
        · rw [Int.min_eq_right h2]; exact h.g.max
      · rw [Int.max_eq_left h1]
        rcases Int.le_total o.g.target o.g.max with h2 | h2
        · rw [Int.min_eq_left h2]; exact h.g.target
        · rw [Int.min_eq_right h2]; exact h.g.max
    · exact h
theorem dflt_kind (o : Ob) : o.dflt.kind = o.kind := by
  unfold Ob.dflt
  split
  · rfl
  · split <;> rfl
theorem dflt_name (o : Ob) : o.dflt.name = o.name := by
  unfold Ob.dflt
  split
  · rfl
  · split <;> rfl
theorem dflt_version (o : Ob) : o.dflt.version = o.version := by
  unfold Ob.dflt
  split
  · rfl
  · split <;> rfl
end Go.Proofs.Mem
namespace Go.Proofs.YtcbnmoghjhljbaaGreat
open Go.RowKit Go.Proofs.Mem
set_option linter.unusedVariables false
set_option linter.unusedSimpArgs false
theorem errO_reval (o : Ob) (V : Nat → Value) : errO (o.reval V) = errO o := rfl
theorem FrV.t3 {w1 w2 : World} {B s n p b : Nat} {v ev : Value} {xs : List Value} (h : FrV w1 B s v n xs) (hp : p < B) (hb : b < B) (he : ∀ g, ev.ownBlock = some g → g < B) (ht : T3 p b ev w1 w2) : FrV w2 B s v n xs := by
  obtain ⟨⟨A, c, e, hc, hn, hl, hx⟩, hB⟩ := h
  refine ⟨⟨A, c, e, hc, hn, hl, fun h0 => ?_⟩, hB⟩
  obtain ⟨ad, e1, hlt, hcell⟩ := hx h0
  subst e1
  have h1 := hB ad n c e
  refine ⟨ad, rfl, Nat.lt_of_lt_of_le hlt ht.size, fun j u hj => ?_⟩
  have h2 := ht.2.2.2.2 ad.block hlt (by omega) (by omega) (fun e => by have := he _ e.symm; omega)
  have h3 := hcell j u hj
  unfold World.cell? at h3 ⊢
  rw [add_block] at h3 ⊢
  rw [h2]
  exact h3
theorem News.t3 {o : Ob} {w1 w2 : World} {B p b : Nat} {V : Nat → Value} {ev : Value} (h : o.News w1 B V) (hp : p < B) (hb : b < B) (he : ∀ g, ev.ownBlock = some g → g < B) (ht : T3 p b ev w1 w2) : o.News w2 B V := fun k hk => FrV.t3 (h k hk) hp hb he ht
theorem version_nat {o : Ob} (h : o.Fit) : o.version = ((o.version.toNat : Nat) : Int) := by
  have h1 := h.version
  unfold wfi Lit.wf at h1
  rw [Bool.and_eq_true, decide_eq_true_eq] at h1
  have h2 : (0 : Int) ≤ o.version := h1.1
  omega
theorem obL_of {o : Ob} {w : World} (h : o.Ok w) : ObL o.cells.toArray o.kind o.name o.version.toNat :=
  ⟨cells_is o h, rfl, rfl, by rw [← version_nat h.fit]; rfl⟩
def DfO (o : Ob) (B : Nat) (L : Array Value) (w : World) : Prop := ∃ V, L = (o.dflt.reval V).cells.toArray ∧ o.dflt.News w B V
theorem DfO.obL {o : Ob} {B : Nat} {L : Array Value} {w : World} (hf : o.Fit) (h : DfO o B L w) : ObL L o.kind o.name o.version.toNat := by
  obtain ⟨V, rfl, hn⟩ := h
  have h1 := obL_of (hf.dflt.ok hn)
  have e1 : (o.dflt.reval V).kind = o.kind := dflt_kind o
  have e2 : (o.dflt.reval V).name = o.name := dflt_name o
  have e3 : (o.dflt.reval V).version = o.version := dflt_version o
  rwa [e1, e2, e3] at h1
section
variable {w : World} {p b n : Nat} {D : DataW Value} {most : Int} {now : Nat} {ev : Value} {evs : List Ev}
theorem screate_any (h : StIs w p b n D most now ev evs) (hN : n < maxLen) (hnow : now < 1000000000) (hevs : evs.length ≤ 1024) (o : Ob) (ho : o.Ok w) (Lw : Array Value) (hLw : Is47 Lw) (hval : valAt D (kOf o.kind o.name) (.agg Z47) = .agg Lw) :
    Calls Tryz.prog 23 #[.pointer (some ⟨p, 0, none⟩), .agg o.cells.toArray] w (fun e w' => if errO o.dflt = 0 then ∃ L' w5, DfO o (w.heap.size + 1) L' w5 ∧ Below w.heap.size w w5 ∧ CreateSt p b n D most now ev evs o.kind o.name L' w5 e w' else e = .returned (.tuple #[.int .u64 0, .int .i64 (errO o.dflt)]) ∧ Below w.heap.size w w') := by
  have hf := ho.fit
  refine create_gen w p b n D most now ev evs h hN o.kind o.name o.version.toNat o.cells.toArray (cells_is o ho) (errO o.dflt) (DfO o (w.heap.size + 1)) (fun L w1 hR => hR.obL hf) ?_ ?_ ho.kind (Nat.le_trans ho.name reach_max) Lw hLw hval ?_ ?_ ?_
  · rintro L w1 w2 ⟨V, e, hn⟩ hb
    exact ⟨V, e, hn.below hb⟩
  · rintro L w1 ⟨V, e, hn⟩
    exact ⟨V, e, hn.sets (by omega) _ _⟩
  · intro w1 hb hlt
    refine (vdefault_any o w1 (ho.below hb)).mono ?_
    rintro e w' ⟨V, rfl, hn, hb'⟩
    exact ⟨_, rfl, ⟨V, rfl, hn.mono (by omega)⟩, hb'⟩
  · rintro w1 L' hb ⟨V, rfl, hn⟩
    exact check_any _ w1 (hf.dflt.ok hn)
  · intro w1 h1
    exact note_any w1 p b n D most now ev evs h1 hnow hevs 0 o.kind o.name
theorem supdate_any (h : StIs w p b n D most now ev evs) (hN : n < maxLen) (hnow : now < 1000000000) (hevs : evs.length ≤ 1024) (o : Ob) (ho : o.Ok w) (Lw : Array Value) (hLw : Is47 Lw) (vw : Nat) (hvw : Lw[2]? = some (.int .u64 vw)) (hval : valAt D (kOf o.kind o.name) (.agg Z47) = .agg Lw) :
    Calls Tryz.prog 35 #[.pointer (some ⟨p, 0, none⟩), .agg o.cells.toArray] w (fun e w' => if errO o.dflt = 0 then ∃ L' w5, DfO o (w.heap.size + 1) L' w5 ∧ Below w.heap.size w w5 ∧ UpdateSt p b n D most now ev evs o.kind o.name L' vw o.version.toNat w5 e w' else e = .returned (.tuple #[.int .u64 0, .int .i64 (errO o.dflt)]) ∧ Below w.heap.size w w') := by
  have hf := ho.fit
  refine update_gen w p b n D most now ev evs h hN o.kind o.name o.version.toNat o.cells.toArray (cells_is o ho) (errO o.dflt) (DfO o (w.heap.size + 1)) (fun L w1 hR => hR.obL hf) ?_ ?_ ho.kind (Nat.le_trans ho.name reach_max) Lw hLw vw hvw hval ?_ ?_ ?_
  · rintro L w1 w2 ⟨V, e, hn⟩ hb
    exact ⟨V, e, hn.below hb⟩
  · rintro L w1 ⟨V, e, hn⟩
    exact ⟨V, e, hn.sets (by omega) _ _⟩
  · intro w1 hb hlt
    refine (vdefault_any o w1 (ho.below hb)).mono ?_
    rintro e w' ⟨V, rfl, hn, hb'⟩
    exact ⟨_, rfl, ⟨V, rfl, hn.mono (by omega)⟩, hb'⟩
  · rintro w1 L' hb ⟨V, rfl, hn⟩
    exact check_any _ w1 (hf.dflt.ok hn)
  · intro w1 h1
    exact note_any w1 p b n D most now ev evs h1 hnow hevs 1 o.kind o.name
end
end Go.Proofs.YtcbnmoghjhljbaaGreat
end
section
namespace Go.Proofs.YtcbnmoghjhljbaaGreat
open Go.RowKit Go.Proofs.Mem
set_option linter.unusedVariables false
set_option linter.unusedSimpArgs false
theorem results_cell_two {fn : Func} {t s : Nat} {ty : TypeId} {tmps : Array Value} {w : World} {ad : Addr} {v : Value} (hf : fn.results = #[.cell t ty, .tmp s]) (hp : tmps.getD t undef = .pointer (some ad)) (hr : (loadVar ty ad).run Tryz.prog w = .ok v w) : (results fn tmps).run Tryz.prog w = .ok (.tuple #[v, tmps.getD s undef]) w := by
  have hp' : tmps[t]?.getD undef = .pointer (some ad) := by rw [← hp, Array.getD_eq_getD_getElem?]
  simp only [results, hf]
  simp [hp', asAddr, hr]
set_option maxHeartbeats 4000000 in
set_option maxRecDepth 100000 in
theorem sget_any (w : World) (p b n : Nat) (D : DataW Value) (most : Int) (now : Nat) (ev : Value) (evs : List Ev) (h : StIs w p b n D most now ev evs) (kind : Int) (name : ByteArray) (hk : (Lit.int .i64 kind).wf = true) (hs : name.size ≤ maxLen)
    (x : Ob) (hx : x.Ok w) (hval : valAt D (kOf kind name) (.agg Z47) = .agg x.cells.toArray) :
    Calls Tryz.prog 10 #[.pointer (some ⟨p, 0, none⟩), .int .i64 kind, .string name] w fun e w' => ∃ V, e = .returned (.tuple #[.agg (x.reval V).cells.toArray, .bool (Maps.has D (kOf kind name))]) ∧ x.News w' w.heap.size V ∧ Below w.heap.size w w' := by
  have hkey := keyOf_st kind name hk hs
  have HU := Lib.hid (Tryz.underlying56)
  have B1 : Below w.heap.size w (w.alloc (.cells Z47 56)) := below_al w _
  have HS1 := h.below B1
  have d1 := HS1.cells.2.1
  have hl := HS1.2.2.1.run_look_ok stK underSt (zero47 _) hkey
  rw [hval] at hl
  have hi := cells_is x hx
  obtain ⟨L, hL⟩ : ∃ L : Array Value, L = x.cells.toArray := ⟨_, rfl⟩
  rw [← hL] at hl hi
  have HL := Lib.hid (And.intro hL hi)
  have k0 := Bk.new w 56 Z47
  have HX := Lib.hid (And.intro hx (And.intro B1 k0))
  obtain ⟨bb, hbb⟩ : ∃ bb, bb = Maps.has D (kOf kind name) := ⟨_, rfl⟩
  rw [← hbb] at hl ⊢
  obtain ⟨q, hq⟩ : ∃ q, q = w.heap.size := ⟨_, rfl⟩
  have HQ := Lib.hid hq
  clear hval hL hi hx B1 k0 HS1 h hbb hk hs hkey hq
  have kz : Bk ((w.alloc (.cells Z47 56)).alloc (.cells Z47 56)) (w.heap.size + 1) 56 Z47 := by
    have := Bk.new (w.alloc (.cells Z47 56)) 56 Z47
    rw [World.size_alloc] at this
    exact this
  have kr : Bk ((w.alloc (.cells Z47 56)).alloc (.cells Z47 56)) w.heap.size 56 Z47 := HX.out.2.2.alloc _
  have B2 : Below w.heap.size w ((w.alloc (.cells Z47 56)).alloc (.cells Z47 56)) := HX.out.2.1.alloc (by simp) _
  have hzz : Z47.size = L.size := HL.out.2.1.symm
  have k3 := setCells_whole kz hzz
  have r3 := setCells_far (h := w.heap.size + 1) (show w.heap.size ≠ w.heap.size + 1 by omega) L.toList 0 kr
  have B3 := below_setCells (g := w.heap.size + 1) L.toList 0 B2 (by omega)
  obtain ⟨W3, hW3⟩ : ∃ W3, W3 = ((w.alloc (.cells Z47 56)).alloc (.cells Z47 56)).setCells (w.heap.size + 1) 0 L.toList := ⟨_, rfl⟩
  rw [← hW3] at k3 r3 B3
  have HZ := Lib.hid (And.intro kz hW3.symm)
  have H3 := Lib.hid (And.intro k3 (And.intro r3 B3))
  clear kz kr B2 k3 r3 B3 hW3
  have HPT : RowKit.Hid (Value.pointer (some ⟨(w.alloc (.cells Z47 56)).heap.size, 0, none⟩) = .pointer (some ⟨w.heap.size + 1, 0, none⟩)) := congrArg (fun g => Value.pointer (some ⟨g, 0, none⟩)) (World.size_alloc _ _)
  have HZZ := Lib.hid hzz
  clear hzz
  go_enter Tryz.func10, Tryz.ntmps10
  go_wp2_with (first | (refine wpl_allocg rfl (run_alloc47 rfl _) ?_) | (refine wpl_storeg HZ.out.1 HZZ.out rfl rfl 56 (.tmp 8) (.tmp 22) rfl (by first | rfl | exact HPT.out) rfl (info47 HL.out.2) HL.out.2.2 ?_; rw [HZ.out.2]) | (refine wpl_loadg H3.out.1 rfl 56 (.tmp 8) rfl (by first | rfl | exact HPT.out) _ HU.out rfl (info47 HL.out.2) ?_))
  rw [HL.out.1]
  refine (vclone_any x W3 (HX.out.1.below H3.out.2.2)).mono ?_
  rintro e w4 ⟨V, rfl, hn, b4⟩
  obtain ⟨k3, r3, B3⟩ := H3.out
  have r4 := r3.below' b4
  have B4 := below_tr B3 b4
  have hiV := cells_is (x.reval V) (Ob.reval_ok HX.out.1 hn)
  have hz4 : Z47.size = (x.reval V).cells.toArray.size := hiV.1.symm
  have hw3 : w.heap.size + 2 ≤ W3.heap.size := k3.lt
  have n5 := (hn.sets (show w.heap.size < W3.heap.size + 3 by omega) 0 (x.reval V).cells.toArray.toList).mono (show w.heap.size ≤ W3.heap.size + 3 by omega)
  have H4 := Lib.hid (And.intro r4 (And.intro B4 (And.intro hiV (And.intro hz4 n5))))
  clear r4 B4 hiV hz4 n5 k3 r3 B3 hn b4
  obtain ⟨L4, hL4⟩ : ∃ L4 : Array Value, L4 = (x.reval V).cells.toArray := ⟨_, rfl⟩
  rw [← hL4] at H4 ⊢
  have HL4 := Lib.hid hL4
  clear hL4
  go_wp2_with (first | (refine wpl_storeg H4.out.1 H4.out.2.2.2.1 rfl rfl 56 (.tmp 6) (.tmp 25) rfl rfl rfl (info47 H4.out.2.2.1) H4.out.2.2.1.2 ?_))
  obtain ⟨r4, B4, hiV, hz4, n5⟩ := H4.out
  have hr := run_loadVar_mid (P := Tryz.prog) _ w.heap.size 0 56 L4.toList _ (setCells_whole r4 hz4).range Tryz.underlying56 rfl (by simpa using info47 hiV)
  refine bodyPost_ret (v := .tuple #[.agg L4, .bool bb]) (results_cell_two (t := 6) (s := 7) rfl rfl (by simpa using hr)) rfl ⟨V, by rw [HL4.out], n5, below_setCells (g := w.heap.size) L4.toList 0 B4 (Nat.le_refl _)⟩
end Go.Proofs.YtcbnmoghjhljbaaGreat
end
section
namespace Go.Proofs.YtcbnmoghjhljbaaGreat
open Go.RowKit Go.Proofs.Mem
set_option linter.unusedVariables false
set_option linter.unusedSimpArgs false
end Go.Proofs.YtcbnmoghjhljbaaGreat
end
section
namespace Go.Proofs.Mem
open Go.RowKit
def isOb (kind : Int) (name : ByteArray) (o : Ob) : Bool := decide (o.kind = kind) && decide (o.name = name)
def findN (kind : Int) (name : ByteArray) (l : List Ob) : Option Nat := l.findIdx? (isOb kind name)
theorem ob_len (o : Ob) : o.cells.length = 47 := rfl
end Go.Proofs.Mem
namespace Go.Proofs.YtcbnmoghjhljbaaGreat
open Go.RowKit Go.Proofs.Mem
set_option linter.unusedVariables false
set_option linter.unusedSimpArgs false
end Go.Proofs.YtcbnmoghjhljbaaGreat
end
section
namespace Go.Proofs.YtcbnmoghjhljbaaGreat
open Go.RowKit Go.Proofs.Mem
set_option linter.unusedVariables false
set_option linter.unusedSimpArgs false
end Go.Proofs.YtcbnmoghjhljbaaGreat
end
section
namespace Go.Proofs.Mem
open Go.RowKit
set_option linter.unusedVariables false
set_option linter.unusedSimpArgs false
def Tch (F : Nat → Prop) (w w' : World) : Prop := w'.os = w.os ∧ w'.tape = w.tape ∧ w'.output = w.output ∧ w.heap.size ≤ w'.heap.size ∧ ∀ i, i < w.heap.size → ¬ F i → w'.heap[i]? = w.heap[i]?
section
variable {F F' : Nat → Prop} {w w1 w2 : World}
theorem Tch.size (h : Tch F w w1) : w.heap.size ≤ w1.heap.size := h.2.2.2.1
theorem Tch.of_below (h : Below w.heap.size w w1) : Tch F w w1 := ⟨h.os, h.tape, h.output, h.size, fun i hi _ => h.block i hi⟩
theorem Tch.mono (h : Tch F w w1) (hF : ∀ i, i < w.heap.size → F i → F' i) : Tch F' w w1 := ⟨h.1, h.2.1, h.2.2.1, h.size, fun i hi hn => h.2.2.2.2 i hi fun hf => hn (hF i hi hf)⟩
theorem Tch.trans (h : Tch F w w1) (h' : Tch F' w1 w2) (hF : ∀ i, i < w.heap.size → F' i → F i) : Tch F w w2 :=
  ⟨h'.1.trans h.1, h'.2.1.trans h.2.1, h'.2.2.1.trans h.2.2.1, Nat.le_trans h.size h'.size, fun i hi hn => (h'.2.2.2.2 i (Nat.lt_of_lt_of_le hi h.size) fun hf => hn (hF i hi hf)).trans (h.2.2.2.2 i hi hn)⟩
theorem Tch.low (h : Tch F w w1) {B : Nat} (h0 : B ≤ w.heap.size) (hF : ∀ i, F i → B ≤ i) : Below B w w1 := ⟨h.1, h.2.1, h.2.2.1, h.size, fun i hi => h.2.2.2.2 i (by omega) fun hf => by have := hF i hf; omega⟩
theorem Tch.bk (h : Tch F w w1) {g : Nat} {t : TypeId} {cs : Array Value} (hk : Bk w g t cs) (hg : ¬ F g) : Bk w1 g t cs := (h.2.2.2.2 g hk.lt hg).trans hk
theorem Tch.own (h : Tch F w w1) {base s n : Nat} {e : TypeId} {v : Value} {xs : List Value} (ho : w.ownsRow base e s v n xs) (hg : ∀ g, v.ownBlock = some g → ¬ F g) : w1.ownsRow base e s v n xs := by
  obtain ⟨hl, h2⟩ := ho
  refine ⟨hl, ?_⟩
  rcases h2 with h2 | ⟨g, cap, cur, hv, hb, hh, r⟩
  · exact .inl h2
  · refine .inr ⟨g, cap, cur, hv, hb, ?_, r⟩
    have hlt : g < w.heap.size := lt_of_heap hh
    rw [h.2.2.2.2 g hlt (hg g (by rw [hv]; rfl))]
    exact hh
end
def RowAway (F : Nat → Prop) (v : Value) : Prop := ∀ ad n c, v = .slice (some ad) n c → 0 < n → ¬ F ad.block
def Ob.Safe (x : Ob) (F : Nat → Prop) (w : World) : Prop := x.Ok w ∧ ∀ k ∈ rowsAt, ∀ v, x.cells[k]? = some v → RowAway F v
theorem Sl.tch {F : Nat → Prop} {w w' : World} {s n : Nat} {v : Value} {xs : List Value} (h : Sl w s v n xs) (ha : RowAway F v) (ht : Tch F w w') : Sl w' s v n xs := by
  obtain ⟨A, c, e, hc, hn, hl, hx⟩ := h
  refine ⟨A, c, e, hc, hn, hl, fun h0 => ?_⟩
  obtain ⟨ad, e1, hlt, hcell⟩ := hx h0
  subst e1
  refine ⟨ad, rfl, Nat.lt_of_lt_of_le hlt ht.size, fun j u hj => ?_⟩
  have h2 := ht.2.2.2.2 ad.block hlt (ha ad n c e h0)
  have h3 := hcell j u hj
  unfold World.cell? at h3 ⊢
  rw [add_block] at h3 ⊢
  rw [h2]
  exact h3
section
variable {x : Ob} {F F' : Nat → Prop} {w w' : World}
theorem Ob.Safe.ok (h : x.Safe F w) : x.Ok w := h.1
theorem Ob.Safe.tch (h : x.Safe F w) (ht : Tch F w w') (hF : ∀ i, i < w.heap.size → F' i → F i) : x.Safe F' w' := by
  obtain ⟨ho, ha⟩ := h
  have sl : ∀ {α : Type} {r : Row α} {s bytes : Nat} {f : α → List Value} {p : α → Prop} (k : Nat), k ∈ rowsAt → x.cells[k]? = some r.v → r.Ok w s bytes f p → r.Ok w' s bytes f p := fun k hk e hr => ⟨hr.1.tch (ha k hk _ e) ht, hr.2⟩
  have aw : ∀ k ∈ rowsAt, ∀ v, x.cells[k]? = some v → (∃ s n xs, Sl w s v n xs) → RowAway F' v := by
    rintro k hk v e ⟨s, n, xs, hs⟩ ad m c hv h0 hf
    obtain ⟨A, c', e', hc, hn, hl, hx⟩ := hs
    rw [hv] at e'
    injection e' with e1 e2 e3
    subst e2
    obtain ⟨ad', e4, hlt, _⟩ := hx h0
    rw [← e1] at e4
    injection e4 with e4
    subst e4
    exact ha k hk v e ad m c hv h0 (hF _ hlt hf)
  refine ⟨⟨ho.kind, ho.name, ho.version,
    ⟨ho.w.replicas, ho.w.cpu, ho.w.mem, sl 6 (by decide) rfl ho.w.labels, sl 7 (by decide) rfl ho.w.select, sl 8 (by decide) rfl ho.w.tolerate, ho.w.warm⟩,
    ⟨ho.p.owner, ho.p.node, ho.p.phase, ho.p.since, ho.p.cpu, ho.p.mem, sl 16 (by decide) rfl ho.p.labels, sl 17 (by decide) rfl ho.p.select, sl 18 (by decide) rfl ho.p.tolerate, ho.p.warm⟩,
    ⟨ho.n.group, ho.n.cpu, ho.n.mem, sl 23 (by decide) rfl ho.n.labels, sl 24 (by decide) rfl ho.n.taints, ho.n.since⟩,
    ⟨ho.g.min, ho.g.max, ho.g.target, ho.g.cpu, ho.g.mem, sl 32 (by decide) rfl ho.g.labels, sl 33 (by decide) rfl ho.g.taints, ho.g.priority⟩,
    ⟨ho.h.target, ho.h.min, ho.h.max, sl 38 (by decide) rfl ho.h.metrics, ho.h.tolerance, ⟨ho.h.up.window, ho.h.up.pick, sl 42 (by decide) rfl ho.h.up.policies⟩, ⟨ho.h.down.window, ho.h.down.pick, sl 45 (by decide) rfl ho.h.down.policies⟩, sl 46 (by decide) rfl ho.h.past⟩⟩, fun k hk v e => aw k hk v e ?_⟩
  have hk' := hk
  simp only [rowsAt, List.mem_cons, List.not_mem_nil, or_false] at hk'
  rcases hk' with rfl | rfl | rfl | rfl | rfl | rfl | rfl | rfl | rfl | rfl | rfl | rfl | rfl | rfl <;> (injection e with e; subst e)
  · exact ⟨_, _, _, ho.w.labels.1⟩
  · exact ⟨_, _, _, ho.w.select.1⟩
  · exact ⟨_, _, _, ho.w.tolerate.1⟩
  · exact ⟨_, _, _, ho.p.labels.1⟩
  · exact ⟨_, _, _, ho.p.select.1⟩
  · exact ⟨_, _, _, ho.p.tolerate.1⟩
  · exact ⟨_, _, _, ho.n.labels.1⟩
  · exact ⟨_, _, _, ho.n.taints.1⟩
  · exact ⟨_, _, _, ho.g.labels.1⟩
  · exact ⟨_, _, _, ho.g.taints.1⟩
  · exact ⟨_, _, _, ho.h.metrics.1⟩
  · exact ⟨_, _, _, ho.h.up.policies.1⟩
  · exact ⟨_, _, _, ho.h.down.policies.1⟩
  · exact ⟨_, _, _, ho.h.past.1⟩
theorem Ob.News.safe {B : Nat} {V : Nat → Value} (hf : x.Fit) (hn : x.News w B V) (hF : ∀ i, F i → i < B) : (x.reval V).Safe F w := by
  refine ⟨hf.ok hn, fun k hk v e => ?_⟩
  have h1 := hn k hk
  have hk' := hk
  have hv : v = V k := by
    simp only [rowsAt, List.mem_cons, List.not_mem_nil, or_false] at hk'
    rcases hk' with rfl | rfl | rfl | rfl | rfl | rfl | rfl | rfl | rfl | rfl | rfl | rfl | rfl | rfl <;> (injection e with e; exact e.symm)
  intro ad n c hs _ hf'
  have h2 := h1.2 ad n c (hv ▸ hs)
  have := hF _ hf'
  omega
end
end Go.Proofs.Mem
end
section
namespace Go.Proofs.YtcbnmoghjhljbaaGreat
open Go.RowKit Go.Proofs.Mem
set_option linter.unusedVariables false
set_option linter.unusedSimpArgs false
end Go.Proofs.YtcbnmoghjhljbaaGreat
end
section
namespace Go.Proofs.YtcbnmoghjhljbaaGreat
open Go.RowKit Go.Proofs.Mem
set_option linter.unusedVariables false
set_option linter.unusedSimpArgs false
end Go.Proofs.YtcbnmoghjhljbaaGreat
end
section
namespace Go.Proofs.YtcbnmoghjhljbaaGreat
open Go.RowKit Go.Proofs.Mem
set_option linter.unusedVariables false
set_option linter.unusedSimpArgs false
end Go.Proofs.YtcbnmoghjhljbaaGreat
end
section
namespace Go.Proofs.YtcbnmoghjhljbaaGreat
open Go.RowKit Go.Proofs.Mem
set_option linter.unusedVariables false
set_option linter.unusedSimpArgs false
end Go.Proofs.YtcbnmoghjhljbaaGreat
end
section
namespace Go.Proofs.YtcbnmoghjhljbaaGreat
open Go.RowKit Go.Proofs.Mem
set_option linter.unusedVariables false
set_option linter.unusedSimpArgs false
end Go.Proofs.YtcbnmoghjhljbaaGreat
end
section
namespace Go.Proofs.YtcbnmoghjhljbaaGreat
open Go.RowKit Go.Proofs.Mem
set_option linter.unusedVariables false
set_option linter.unusedSimpArgs false
section
end
end Go.Proofs.YtcbnmoghjhljbaaGreat
end
section
namespace Go.Proofs.YtcbnmoghjhljbaaGreat
open Go.RowKit Go.Proofs.Mem
end Go.Proofs.YtcbnmoghjhljbaaGreat
end
section
namespace Go.Proofs.YtcbnmoghjhljbaaGreat
open Go.RowKit Go.Proofs.Mem
set_option linter.unusedVariables false
set_option linter.unusedSimpArgs false
end Go.Proofs.YtcbnmoghjhljbaaGreat
end
section
namespace Go.Proofs.YtcbnmoghjhljbaaGreat
open Go.RowKit Go.Proofs.Mem
set_option linter.unusedVariables false
set_option linter.unusedSimpArgs false
end Go.Proofs.YtcbnmoghjhljbaaGreat
end
section
namespace Go.Proofs.YtcbnmoghjhljbaaGreat
open Go.RowKit Go.Proofs.Mem
set_option linter.unusedVariables false
set_option linter.unusedSimpArgs false
structure Apart (p b mb : Nat) (ev mev lv : Value) : Prop where
  mm : mev.ownBlock ≠ some mb
  pm : p ≠ mb
  bm : b ≠ mb
  em : ev.ownBlock ≠ some mb
  mp : mev.ownBlock ≠ some p
  mbb : mev.ownBlock ≠ some b
  me : ∀ g, mev.ownBlock = some g → ev.ownBlock ≠ some g
  lp : lv.ownBlock ≠ some p
  lb : lv.ownBlock ≠ some b
  lm : lv.ownBlock ≠ some mb
  le : ∀ g, lv.ownBlock = some g → ev.ownBlock ≠ some g
  lme : ∀ g, lv.ownBlock = some g → mev.ownBlock ≠ some g
section
variable {w w' : World} {p b n mb : Nat} {D : DataW Value} {most : Int} {now : Nat} {ev mev lv : Value} {evs mevs : List Ev}
end
theorem tch_t3 {F : Nat → Prop} {w w' : World} {p b : Nat} {ev : Value} (ht : T3 p b ev w w') (hF : ∀ j, ¬ F j → j ≠ p ∧ j ≠ b ∧ some j ≠ ev.ownBlock) : Tch F w w' :=
  ⟨ht.1, ht.2.1, ht.2.2.1, ht.size, fun i hi hn => ht.2.2.2.2 i hi (hF i hn).1 (hF i hn).2.1 (hF i hn).2.2⟩
end Go.Proofs.YtcbnmoghjhljbaaGreat
end
section
namespace Go.Proofs.YtcbnmoghjhljbaaGreat
open Go.RowKit Go.Proofs.Mem
set_option linter.unusedVariables false
set_option linter.unusedSimpArgs false
end Go.Proofs.YtcbnmoghjhljbaaGreat
end
section
namespace Go.Proofs.YtcbnmoghjhljbaaGreat
open Go.RowKit Go.Proofs.Mem
set_option linter.unusedVariables false
set_option linter.unusedSimpArgs false
end Go.Proofs.YtcbnmoghjhljbaaGreat
end
section
namespace Go.Proofs.YtcbnmoghjhljbaaGreat
open Go.RowKit Go.Proofs.Mem
set_option linter.unusedVariables false
set_option linter.unusedSimpArgs false
theorem cells_ver (x : Ob) (v : Int) : (x.cells.toArray.setIfInBounds 2 (.int .u64 v)).toList = (Ob.mk x.kind x.name v x.w x.p x.n x.g x.h).cells := by
  rw [List.setIfInBounds_toArray]
  show x.cells.set 2 _ = _
  kernel_rfl
theorem Ob.News.safe2 {x : Ob} {w w' : World} {F : Nat → Prop} {B : Nat} {V : Nat → Value} (hf : x.Fit) (hn : x.News w B V) (hn' : x.News w' B V) (hF : ∀ i, F i → i < B ∨ w.heap.size ≤ i) : (x.reval V).Safe F w' := by
  refine ⟨hf.ok hn', fun k hk v e => ?_⟩
  have h1 := hn k hk
  have hk' := hk
  have hv : v = V k := by
    simp only [rowsAt, List.mem_cons, List.not_mem_nil, or_false] at hk'
    rcases hk' with rfl | rfl | rfl | rfl | rfl | rfl | rfl | rfl | rfl | rfl | rfl | rfl | rfl | rfl <;> (injection e with e; exact e.symm)
  intro ad n c hs h0 hf'
  have h2 := h1.2 ad n c (hv ▸ hs)
  have h3 : ad.block < w.heap.size := by
    obtain ⟨A, c', e', hc, hn, hl, hx⟩ := h1.1
    rw [← hv, hs] at e'
    injection e' with e1 e2 e3
    subst e2
    obtain ⟨ad', e4, hlt, _⟩ := hx h0
    rw [← e1] at e4
    injection e4 with e4
    rw [e4]
    exact hlt
  have := hF _ hf'
  omega
end Go.Proofs.YtcbnmoghjhljbaaGreat
end
section
namespace Go.Proofs.YtcbnmoghjhljbaaGreat
open Go.RowKit Go.Proofs.Mem
set_option linter.unusedVariables false
set_option linter.unusedSimpArgs false
end Go.Proofs.YtcbnmoghjhljbaaGreat
end
section
namespace Go.Proofs.YtcbnmoghjhljbaaGreat
open Go.RowKit Go.Proofs.Mem
set_option linter.unusedVariables false
set_option linter.unusedSimpArgs false
theorem own_parts {w : World} {base s n : Nat} {e : TypeId} {v : Value} {xs : List Value} (h : w.ownsRow base e s v n xs) (h0 : 0 < n) : ∃ g cap cur, v = .slice (some ⟨g, 0, none⟩) n cap ∧ base ≤ g ∧ Bk w g e cur ∧ n ≤ cap ∧ cap ≤ maxLen ∧ cur.size = cap * s ∧ cur.toList.take (n * s) = xs := by
  obtain ⟨_, h⟩ := h
  rcases h with ⟨_, h⟩ | ⟨g, cap, cur, hv, hb, hg, h1, h2, h3, h4⟩
  · omega
  · exact ⟨g, cap, cur, hv, hb, hg, h1, h2, h3, h4⟩
end Go.Proofs.YtcbnmoghjhljbaaGreat
end
section
namespace Go.Proofs.Mem
open Go.RowKit
set_option linter.unusedVariables false
def nf (o : Ob) : Ob := o.reval fun _ => .slice none 0 0
theorem nf_reval (o : Ob) (V : Nat → Value) : nf (o.reval V) = nf o := rfl
theorem nf_ver {o o' : Ob} (h : nf o = nf o') : o.version = o'.version := (congrArg Ob.version h : (nf o).version = (nf o').version)
def keys (ml : List Ob) : List (Int × ByteArray) := ml.map fun x => (x.kind, x.name)
theorem isOb_iff {kind : Int} {name : ByteArray} {x : Ob} : isOb kind name x = true ↔ (x.kind, x.name) = (kind, name) := by
  unfold isOb
  simp [Bool.and_eq_true]
theorem findN_none {kind : Int} {name : ByteArray} {ml : List Ob} (h : findN kind name ml = none) : (kind, name) ∉ keys ml := by
  unfold findN at h
  rw [List.findIdx?_eq_none_iff] at h
  intro hm
  obtain ⟨x, hx, e⟩ := List.mem_map.1 hm
  have := h x hx
  rw [isOb_iff.2 e] at this
  cases this
theorem findN_some {kind : Int} {name : ByteArray} {ml : List Ob} {i : Nat} (h : findN kind name ml = some i) : ∃ hi : i < ml.length, ml[i].kind = kind ∧ ml[i].name = name := by
  unfold findN at h
  rw [List.findIdx?_eq_some_iff_getElem] at h
  obtain ⟨hi, h1, _⟩ := h
  have := isOb_iff.1 h1
  injection this with h2 h3
  exact ⟨hi, h2, h3⟩
end Go.Proofs.Mem
namespace Go.Proofs.YtcbnmoghjhljbaaGreat
open Go.RowKit Go.Proofs.Mem
set_option linter.unusedVariables false
set_option linter.unusedSimpArgs false
theorem ver0 : Z47[2]? = some (.int .u64 (0 : Nat)) := rfl
def KeyOk (k : Int × ByteArray) : Prop := (Lit.int .i64 k.1).wf = true ∧ k.2.size ≤ maxLen
theorem kOf_ne {k k' : Int × ByteArray} (h : KeyOk k) (h' : KeyOk k') (hne : k ≠ k') : kOf k.1 k.2 ≠ kOf k'.1 k'.2 := fun e => hne (Prod.ext (kOf_inj h.1 h'.1 h.2 h'.2 e).1 (kOf_inj h.1 h'.1 h.2 h'.2 e).2)
theorem Ob.Ok.keyOk {x : Ob} {w : World} (h : x.Ok w) : KeyOk (x.kind, x.name) := ⟨h.kind, Nat.le_trans h.name reach_max⟩
def StandsO (D : DataW Value) (F : Nat → Prop) (w : World) (x : Ob) : Prop := Maps.has D (kOf x.kind x.name) = true ∧ ∃ y, valAt D (kOf x.kind x.name) (.agg Z47) = .agg y.cells.toArray ∧ y.Safe F w ∧ nf y = nf x
section
variable {B : Nat} {w w' : World} {p b n : Nat} {D : DataW Value} {most : Int} {now : Nat} {ev : Value} {evs : List Ev} {mb : Nat} {lv mev : Value} {mevs : List Ev} {ml : List Ob}
end
end Go.Proofs.YtcbnmoghjhljbaaGreat
end
section
namespace Go.Proofs.YtcbnmoghjhljbaaGreat
open Go.RowKit Go.Proofs.Mem
set_option linter.unusedVariables false
set_option linter.unusedSimpArgs false
theorem next_lt {evs : List Ev} (x : Ev) (h : evs.length ≤ 500) : nextEvs evs x = evs ++ [x] := by
  unfold nextEvs
  rw [if_pos (by omega)]
section
variable {B : Nat} {w w' : World} {p b n n' : Nat} {D D' : DataW Value} {most : Int} {now : Nat} {ev : Value} {mb : Nat} {lv mev : Value} {mevs : List Ev} {ml ml' : List Ob} {x : Ev} {Pq : Value → Value → Value → World → Prop} {e : Ending}
end
theorem safe_ver {o d : Ob} {F : Nat → Prop} {w : World} (h : d.Safe F w) (v : Int) (hv : wfi .u64 v) (ek : d.kind = o.kind) (en : d.name = o.name) : (Ob.mk o.kind o.name v d.w d.p d.n d.g d.h).Safe F w := by
  obtain ⟨ho, ha⟩ := h
  refine ⟨⟨ek ▸ ho.kind, en ▸ ho.name, hv, ho.w, ho.p, ho.n, ho.g, ho.h⟩, fun k hk u e => ha k hk u ?_⟩
  simp only [rowsAt, List.mem_cons, List.not_mem_nil, or_false] at hk
  rcases hk with rfl | rfl | rfl | rfl | rfl | rfl | rfl | rfl | rfl | rfl | rfl | rfl | rfl | rfl <;> exact e
theorem keys_append (l l' : List Ob) : keys (l ++ l') = keys l ++ keys l' := List.map_append
theorem putL_dflt (o : Ob) (V : Nat → Value) (v : Nat) : putL (o.dflt.reval V).cells.toArray v = (Ob.mk o.kind o.name (v : Int) (o.dflt.reval V).w (o.dflt.reval V).p (o.dflt.reval V).n (o.dflt.reval V).g (o.dflt.reval V).h).cells.toArray := by
  unfold putL
  have e1 : (o.dflt.reval V).kind = o.kind := dflt_kind o
  have e2 : (o.dflt.reval V).name = o.name := dflt_name o
  apply Array.toList_inj.1
  rw [cells_ver, e1, e2]
theorem wf_now {v : Nat} (h : v ≤ 1000000) : wfi .u64 ((v : Nat) : Int) := by
  have h1 : IntKind.u64.min = 0 := rfl
  have h2 : IntKind.u64.max = 18446744073709551615 := rfl
  unfold wfi Lit.wf
  rw [Bool.and_eq_true, decide_eq_true_eq, decide_eq_true_eq]
  omega
end Go.Proofs.YtcbnmoghjhljbaaGreat
end
section
namespace Go.Proofs.YtcbnmoghjhljbaaGreat
open Go.RowKit Go.Proofs.Mem
set_option linter.unusedVariables false
set_option linter.unusedSimpArgs false
theorem key_inj {ml : List Ob} (h : (keys ml).Nodup) {i j : Nat} (hi : i < ml.length) (hj : j < ml.length) (e : (ml[i].kind, ml[i].name) = (ml[j].kind, ml[j].name)) : i = j := by
  have h1 : (keys ml)[i]'(by simpa [keys] using hi) = (keys ml)[j]'(by simpa [keys] using hj) := by simpa [keys] using e
  have h2 := List.pairwise_iff_getElem.1 h
  rcases Nat.lt_trichotomy i j with hij | hij | hij
  · exact absurd h1 (h2 i j (by simpa [keys] using hi) (by simpa [keys] using hj) hij)
  · exact hij
  · exact absurd h1.symm (h2 j i (by simpa [keys] using hj) (by simpa [keys] using hi) hij)
theorem mem_keys {ml : List Ob} {x : Ob} (h : x ∈ ml) : (x.kind, x.name) ∈ keys ml := List.mem_map.2 ⟨x, h, rfl⟩
section
variable {B : Nat} {w w' : World} {p b n : Nat} {D : DataW Value} {most : Int} {now : Nat} {ev : Value} {mb : Nat} {lv mev : Value} {mevs : List Ev} {ml : List Ob} {e : Ending} {o : Ob} {G : Nat → Prop}
end
end Go.Proofs.YtcbnmoghjhljbaaGreat
end
section
namespace Go.Proofs.YtcbnmoghjhljbaaGreat
open Go.RowKit Go.Proofs.Mem
set_option linter.unusedVariables false
set_option linter.unusedSimpArgs false
set_option maxRecDepth 10000
end Go.Proofs.YtcbnmoghjhljbaaGreat
end
section
namespace Go.Proofs.YtcbnmoghjhljbaaGreat
open Go.RowKit Go.Proofs.Mem
set_option linter.unusedVariables false
set_option linter.unusedSimpArgs false
structure A8 where
  k : Int
  o : Ob
  r : Bool
end Go.Proofs.YtcbnmoghjhljbaaGreat
end
section
namespace Go.Proofs.YtcbnmoghjhljbaaGreat
open Go.RowKit Go.Proofs.Mem
open Go.Sort
set_option linter.unusedVariables false
set_option linter.unusedSimpArgs false
structure SRel (D : DataW Value) (F : Nat → Prop) (w : World) (cl : List Ob) : Prop where
  size : Maps.size D = cl.length
  at1 : ∀ x ∈ cl, StandsO D F w x
  at0 : ∀ k, KeyOk k → k ∉ keys cl → Maps.has D (kOf k.1 k.2) = false
  ok : ∀ k ∈ keys cl, KeyOk k
  uniq : (keys cl).Nodup
set_option maxRecDepth 100000 in
theorem key_inv {key : Value} {kl : Lit} (h : keyOf Tryz.prog 92 key = some kl) : ∃ k : Int × ByteArray, KeyOk k ∧ key = .agg #[.int .i64 k.1, .string k.2] ∧ kl = kOf k.1 k.2 := by
  have e4 : Tryz.prog.cellsOf 92 = 2 := by kernel_rfl
  have e5 : Tryz.prog.cellsOf 3 = 1 := by kernel_rfl
  have e6 : Tryz.prog.cellsOf 9 = 1 := by kernel_rfl
  have h0 := h
  unfold keyOf at h
  rw [Tryz.underlying92] at h
  simp only at h
  split at h
  · rename_i hf
    rw [Bool.and_eq_true] at hf
    obtain ⟨_, hf⟩ := hf
    cases key with
    | agg cs =>
      simp [Value.formed, Tryz.underlying92, e4] at hf
      obtain ⟨c0, c1, rfl⟩ : ∃ c0 c1, cs = #[c0, c1] := by
        obtain ⟨l⟩ := cs
        match l, hf with
        | [a, b], _ => exact ⟨a, b, rfl⟩
      have e7 : ∃ m, Tryz.prog.types.size = m + 1 := ⟨Tryz.prog.types.size - 1, by kernel_rfl⟩
      obtain ⟨m, hm⟩ := e7
      rw [hm, show (Value.agg #[c0, c1]).cells.toList = [c0, c1] from rfl] at h
      simp only [Program.keyLits, Tryz.underlying92] at h
      have hc0 : ∃ z, c0 = .int .i64 z ∧ (Lit.int .i64 z).wf = true := by
        cases c0 with
        | int q z =>
          by_cases hw : q = .i64 ∧ (Lit.int .i64 z).wf = true
          · obtain ⟨rfl, hw⟩ := hw
            exact ⟨z, rfl, hw⟩
          · simp [Program.keyLits, e4, e5, e6, Tryz.underlying3, Tryz.underlying9, hw] at h
        | _ => simp [Program.keyLits, e4, e5, e6, Tryz.underlying3, Tryz.underlying9] at h
      obtain ⟨z, rfl, hz⟩ := hc0
      have hc1 : ∃ s, c1 = .string s ∧ s.size ≤ maxLen := by
        cases c1 with
        | string s =>
          by_cases hw : s.size ≤ maxLen
          · exact ⟨s, rfl, hw⟩
          · simp [Program.keyLits, e4, e5, e6, Tryz.underlying3, Tryz.underlying9, hw, hz] at h
        | _ => simp [Program.keyLits, e4, e5, e6, Tryz.underlying3, Tryz.underlying9, hz] at h
      obtain ⟨s, rfl, hs⟩ := hc1
      have h1 := keyOf_st z s hz hs
      rw [h0] at h1
      injection h1 with h1
      exact ⟨(z, s), ⟨hz, hs⟩, rfl, h1⟩
    | _ => simp [Value.formed, Tryz.underlying92] at hf
  · cases h
abbrev leB (x y : List UInt8) : Bool := decide (x ≤ y)
theorem leB_trans (a b c : List UInt8) (h1 : leB a b = true) (h2 : leB b c = true) : leB a c = true := by
  simp only [leB, decide_eq_true_eq] at *
  exact List.le_trans h1 h2
theorem leB_total (a b : List UInt8) : (leB a b || leB b a) = true := by
  simp only [leB, Bool.or_eq_true, decide_eq_true_eq]
  exact List.le_total a b
def nms (cl : List Ob) (kind : Int) : List (List UInt8) := ((cl.filter fun x => decide (x.kind = kind)).map fun x => x.name.data.toList).mergeSort leB
theorem nms_mem {cl : List Ob} {kind : Int} {s : List UInt8} : s ∈ nms cl kind ↔ ∃ x ∈ cl, x.kind = kind ∧ x.name.data.toList = s := by
  unfold nms
  rw [List.mem_mergeSort, List.mem_map]
  constructor
  · rintro ⟨x, hx, rfl⟩
    obtain ⟨h1, h2⟩ := List.mem_filter.1 hx
    exact ⟨x, h1, by simpa using h2, rfl⟩
  · rintro ⟨x, hx, hk, rfl⟩
    exact ⟨x, List.mem_filter.2 ⟨hx, by simpa using hk⟩, rfl⟩
theorem nms_sorted (cl : List Ob) (kind : Int) : (nms cl kind).Pairwise fun x y => leB x y = true := List.pairwise_mergeSort leB_trans leB_total _
theorem bytes_inj {s t : ByteArray} (h : s.data.toList = t.data.toList) : s = t := ByteArray.ext (Array.toList_inj.1 h)
theorem nms_raw_nodup {cl : List Ob} (h : (keys cl).Nodup) (kind : Int) : ((cl.filter fun x => decide (x.kind = kind)).map fun x => x.name.data.toList).Nodup := by
  have h1 : ((cl.filter fun x => decide (x.kind = kind)).map fun x => (x.kind, x.name)).Nodup := List.Nodup.sublist (List.filter_sublist.map _) h
  refine List.pairwise_map.2 ((List.pairwise_map.1 h1).imp_of_mem fun {a b} ha hb hne e => hne ?_)
  have ka := (List.mem_filter.1 ha).2
  have kb := (List.mem_filter.1 hb).2
  simp at ka kb
  rw [ka, kb, bytes_inj e]
theorem nms_nodup {cl : List Ob} (h : (keys cl).Nodup) (kind : Int) : (nms cl kind).Nodup := (List.mergeSort_perm _ _).symm.nodup (nms_raw_nodup h kind)
theorem nms_of {cl : List Ob} (h : (keys cl).Nodup) {kind : Int} {ss : List (List UInt8)} (hn : ss.Nodup) (hm : ∀ s, s ∈ ss ↔ ∃ x ∈ cl, x.kind = kind ∧ x.name.data.toList = s) : ss.mergeSort leB = nms cl kind := by
  have hp : (ss.mergeSort leB).Perm (nms cl kind) := by
    refine (List.mergeSort_perm _ _).trans ?_
    refine (List.perm_ext_iff_of_nodup hn (nms_nodup h kind)).2 fun a => ?_
    rw [hm, nms_mem]
  exact hp.eq_of_pairwise (le := fun x y => leB x y = true) (fun a b _ _ h1 h2 => by
    simp only [leB, decide_eq_true_eq] at h1 h2
    exact List.le_antisymm h1 h2) (List.pairwise_mergeSort leB_trans leB_total _) (nms_sorted cl kind)
theorem ranges_below {w w' : World} {k : TypeId} {b r n : Nat} {D : DataW Value} {left : Lit → Bool} {c : Nat} (h : w.ranges Tryz.prog k asIs b r n D left c) (hb : Below w.heap.size w w') : w'.ranges Tryz.prog k asIs b r n D left c :=
  h.kept (row := none) ⟨hb.os, hb.tape, hb.output, hb.size, fun i hi _ => hb.block i hi⟩ (by simp) (by simp)
end Go.Proofs.YtcbnmoghjhljbaaGreat
end
section
namespace Go.Proofs
open Go.RowKit Go.Sort Go.Shelf
def Tryz.sorts_ren : Go.Shelf.Ren := ⟨fun | 6 => 51 | 8 => 70 | 9 => 69 | 19 => 105 | 20 => 106 | 21 => 96 | 22 => 97 | 23 => 98 | 24 => 99 | 25 => 100 | 26 => 101 | 27 => 102 | 28 => 103 | 29 => 104 | 36 => 117 | 31 => 118 | 32 => 119 | 37 => 120 | 38 => 121 | 39 => 122 | 41 => 131 | n => n, fun | 27 => 25 | 29 => 9 | 3 => 3 | 32 => 156 | 26 => 25 | 0 => 0 | 44 => 190 | 46 => 34 | 4 => 4 | 36 => 182 | 35 => 181 | 41 => 187 | 5 => 5 | 9 => 9 | 53 => 203 | 57 => 206 | 63 => 214 | 64 => 215 | n => n, fun | n => n⟩
theorem Tryz.sorts : Go.Proofs.SlLaysM.n6 Tryz.prog Tryz.sorts_ren := {
  mixed := by kernel_rfl
  f6 := ⟨Tryz.f51.name, by decide, Tryz.func51.trans (congrArg some (by kernel_rfl))⟩
  f8 := Tryz.func70.trans (congrArg some (by kernel_rfl))
  f9 := ⟨Tryz.f69.name, by decide, Tryz.func69.trans (congrArg some (by kernel_rfl))⟩
  f19 := Tryz.func105.trans (congrArg some (by kernel_rfl))
  f20 := Tryz.func106.trans (congrArg some (by kernel_rfl))
  f21 := ⟨Tryz.f96.name, by decide, Tryz.func96.trans (congrArg some (by kernel_rfl))⟩
  f22 := ⟨Tryz.f97.name, by decide, Tryz.func97.trans (congrArg some (by kernel_rfl))⟩
  f23 := ⟨Tryz.f98.name, by decide, Tryz.func98.trans (congrArg some (by kernel_rfl))⟩
  f24 := ⟨Tryz.f99.name, by decide, Tryz.func99.trans (congrArg some (by kernel_rfl))⟩
  f25 := ⟨Tryz.f100.name, by decide, Tryz.func100.trans (congrArg some (by kernel_rfl))⟩
  f26 := ⟨Tryz.f101.name, by decide, Tryz.func101.trans (congrArg some (by kernel_rfl))⟩
  f27 := ⟨Tryz.f102.name, by decide, Tryz.func102.trans (congrArg some (by kernel_rfl))⟩
  f28 := ⟨Tryz.f103.name, by decide, Tryz.func103.trans (congrArg some (by kernel_rfl))⟩
  f29 := ⟨Tryz.f104.name, by decide, Tryz.func104.trans (congrArg some (by kernel_rfl))⟩
  f31 := Tryz.func118.trans (congrArg some (by kernel_rfl))
  f32 := Tryz.func119.trans (congrArg some (by kernel_rfl))
  f36 := ⟨Tryz.f117.name, by decide, Tryz.func117.trans (congrArg some (by kernel_rfl))⟩
  f37 := ⟨Tryz.f120.name, by decide, Tryz.func120.trans (congrArg some (by kernel_rfl))⟩
  f38 := ⟨Tryz.f121.name, by decide, Tryz.func121.trans (congrArg some (by kernel_rfl))⟩
  f39 := ⟨Tryz.f122.name, by decide, Tryz.func122.trans (congrArg some (by kernel_rfl))⟩
  f41 := ⟨Tryz.f131.name, by decide, Tryz.func131.trans (congrArg some (by kernel_rfl))⟩
  t0 := Tryz.underlying0
  a0 := Tryz.isAgg0
  z0 := Tryz.sizeOf0
  v0 := Tryz.zeroValue0
  t3 := Tryz.underlying3
  a3 := Tryz.isAgg3
  z3 := Tryz.sizeOf3
  v3 := Tryz.zeroValue3
  t4 := Tryz.underlying4
  a4 := Tryz.isAgg4
  z4 := Tryz.sizeOf4
  v4 := Tryz.zeroValue4
  t5 := Tryz.underlying5
  a5 := Tryz.isAgg5
  z5 := Tryz.sizeOf5
  v5 := Tryz.zeroValue5
  t9 := Tryz.underlying9
  a9 := Tryz.isAgg9
  z9 := Tryz.sizeOf9
  v9 := Tryz.zeroValue9
  t26 := Tryz.underlying25
  a26 := Tryz.isAgg25
  z26 := Tryz.sizeOf25
  v26 := Tryz.zeroValue25
  t27 := Tryz.underlying25
  a27 := Tryz.isAgg25
  z27 := Tryz.sizeOf25
  v27 := Tryz.zeroValue25
  t29 := Tryz.underlying9
  a29 := Tryz.isAgg9
  z29 := Tryz.sizeOf9
  v29 := Tryz.zeroValue9
  t32 := Tryz.underlying156
  a32 := Tryz.isAgg156
  z32 := Tryz.sizeOf156
  v32 := Tryz.zeroValue156
  t35 := Tryz.underlying181
  a35 := Tryz.isAgg181
  z35 := Tryz.sizeOf181
  v35 := Tryz.zeroValue181
  t36 := Tryz.underlying182
  a36 := Tryz.isAgg182
  z36 := Tryz.sizeOf182
  v36 := Tryz.zeroValue182
  t41 := Tryz.underlying187
  a41 := Tryz.isAgg187
  z41 := Tryz.sizeOf187
  v41 := Tryz.zeroValue187
  t44 := Tryz.underlying190
  a44 := Tryz.isAgg190
  z44 := Tryz.sizeOf190
  v44 := Tryz.zeroValue190
  t46 := Tryz.underlying34
  a46 := Tryz.isAgg34
  z46 := Tryz.sizeOf34
  v46 := Tryz.zeroValue34
  t53 := Tryz.underlying203
  a53 := Tryz.isAgg203
  z53 := Tryz.sizeOf203
  v53 := Tryz.zeroValue203
  t57 := Tryz.underlying206
  a57 := Tryz.isAgg206
  z57 := Tryz.sizeOf206
  v57 := Tryz.zeroValue206
  t63 := Tryz.underlying214
  a63 := Tryz.isAgg214
  z63 := Tryz.sizeOf214
  v63 := Tryz.zeroValue214
  t64 := Tryz.underlying215
  a64 := Tryz.isAgg215
  z64 := Tryz.sizeOf215
  v64 := Tryz.zeroValue215 }

theorem Tryz.sort_strings (blk off cap : Nat) (ss : List (List UInt8)) (w : World) (hH : Holds encStr w blk off ss.toArray) (hblk : blk < w.heap.size) (hsz : ss.length < 4611686018427387904) :
    Calls Tryz.prog 51 #[.slice (some ⟨blk, off, none⟩) ss.length cap] w fun e w' => e = .returned (.tuple #[]) ∧ ∃ n os, w' = grow (putRow encStr (Sort.ahead w n) blk off (ss.mergeSort fun x y => decide (x ≤ y)).toArray) os :=
  AnyM.slices_Sort_string Tryz.sorts blk off cap ss w hH hblk hsz
theorem Tryz.sort_none (p : Option Addr) (cap : Nat) (w : World) : Calls Tryz.prog 51 #[.slice p 0 cap] w fun e w' => e = .returned (.tuple #[]) ∧ w' = w := AnyM.slices_Sort_string_none Tryz.sorts p cap w
end Go.Proofs
end
section
namespace Go.Proofs.YtcbnmoghjhljbaaGreat
open Go.RowKit Go.Proofs.Mem Go.Shelf
open Go.Sort
set_option linter.unusedVariables false
set_option linter.unusedSimpArgs false
attribute [local go_sem] Oper.semAt_some
set_option maxRecDepth 100000 in
theorem list_any (p : Nat) (kind : Int) (w : World) : Calls Tryz.prog 30 #[.pointer (some ⟨p, 0, none⟩), .int .i64 kind] w fun e w' => e = .returned (.func (.func 50) #[] #[.pointer (some ⟨w.heap.size, 0, none⟩), .pointer (some ⟨w.heap.size + 1, 0, none⟩)]) ∧ w' = (w.alloc (.cells #[.pointer (some ⟨p, 0, none⟩)] 26)).alloc (.cells #[.int .i64 kind] 3) := by
  go_enter Tryz.func30, Tryz.ntmps30
  go_wp2_with fail
  go_ret
  exact ⟨rfl, rfl⟩
theorem info_str : (Tryz.prog.info? 9).map (fun i => (i.zero, i.size, i.bytes)) = some (some (.string ⟨#[]⟩), 1, 16) := by kernel_rfl
theorem sort_own (w : World) (base : Nat) (v : Value) (ss : List (List UInt8)) (h : w.ownsRow base 9 1 v ss.length (ss.map encStr)) (hsz : ss.length < 4611686018427387904) :
    Calls Tryz.prog 51 #[v] w fun e w' => e = .returned (.tuple #[]) ∧ w'.ownsRow base 9 1 v ss.length ((ss.mergeSort leB).map encStr) ∧ w.grownBy w' v.ownBlock := by
  rcases Nat.eq_zero_or_pos ss.length with h0 | h0
  · have hss : ss = [] := List.eq_nil_of_length_eq_zero h0
    subst hss
    obtain ⟨A, c, rfl, _⟩ := id (Sl.of_own h)
    refine (Tryz.sort_none A c w).mono ?_
    rintro e w' ⟨rfl, rfl⟩
    refine ⟨rfl, ?_, World.grownBy.refl _ _⟩
    simpa using h
  · obtain ⟨g, cap, cur, rfl, hg, hk, h1, h2, h3, h4⟩ := own_parts h h0
    refine (Tryz.sort_strings g 0 cap ss w (holds_of_block hk (by simpa using h4)) hk.lt hsz).mono ?_
    rintro e w' ⟨rfl, n, os, rfl⟩
    exact ⟨rfl, ownsRow_sorted (by simp) hg hk h1 h2 h3, grownBy_sorted _⟩
def KeepL (n₀ : Nat) (F : Nat → Prop) (W W' : World) : Prop := W'.os = W.os ∧ W'.tape = W.tape ∧ W'.output = W.output ∧ W.heap.size ≤ W'.heap.size ∧ (∀ i, i < n₀ → ¬ F i → W'.heap[i]? = W.heap[i]?) ∧ ∀ i o, n₀ ≤ i → W.heap[i]? = some o → o.isCells = true → W'.heap[i]? = some o
theorem KeepL.trans {n₀ : Nat} {F : Nat → Prop} {A B C : World} (h : KeepL n₀ F A B) (k : KeepL n₀ F B C) : KeepL n₀ F A C :=
  ⟨k.1.trans h.1, k.2.1.trans h.2.1, k.2.2.1.trans h.2.2.1, Nat.le_trans h.2.2.2.1 k.2.2.2.1, fun i hi hn => (k.2.2.2.2.1 i hi hn).trans (h.2.2.2.2.1 i hi hn), fun i o hi ho hc => k.2.2.2.2.2 i o hi (h.2.2.2.2.2 i o hi ho hc) hc⟩
theorem KeepL.of_below {n₀ : Nat} {F : Nat → Prop} {A B : World} (h : Below A.heap.size A B) (hn : n₀ ≤ A.heap.size) : KeepL n₀ F A B :=
  ⟨h.os, h.tape, h.output, h.size, fun i hi _ => h.block i (by omega), fun i o _ ho _ => (h.block i (Array.getElem?_eq_some_iff.1 ho).1).trans ho⟩
theorem KeepL.put {n₀ : Nat} {F : Nat → Prop} (W : World) (l : Nat) (o o' : Obj) (hl : n₀ ≤ l) (ho : W.heap[l]? = some o) (hc : o.isCells = false) (_ : o.isWalk = false) : KeepL n₀ F W (W.putObj l o') :=
  ⟨rfl, rfl, rfl, by simp [World.putObj], fun i hi _ => World.putObj_heap_other (by omega), fun i q hi hq hqc => (World.putObj_heap_other (fun e => by
    subst e
    rw [ho] at hq
    injection hq with hq
    rw [hq] at hc
    rw [hc] at hqc
    cases hqc)).trans hq⟩
theorem KeepL.tch {n₀ : Nat} {F : Nat → Prop} {w A B : World} (hn : n₀ = w.heap.size) (h : Tch F w A) (k : KeepL n₀ F A B) : Tch F w B :=
  ⟨k.1.trans h.1, k.2.1.trans h.2.1, k.2.2.1.trans h.2.2.1, Nat.le_trans h.size k.2.2.2.1, fun i hi hn' => (k.2.2.2.2.1 i (by omega) hn').trans (h.2.2.2.2 i hi hn')⟩
theorem tch_below {w w' W : World} {F : Nat → Prop} (h : Tch F W w) (hb : Below w.heap.size w w') : Tch F W w' := h.trans (Tch.of_below hb) fun _ _ h => h
theorem tch_cell {F : Nat → Prop} {w w' : World} (h : Tch F w w') {g i : Nat} {u : Value} (hc : w.cell? ⟨g, i, none⟩ = some u) (hg : ¬ F g) : w'.cell? ⟨g, i, none⟩ = some u := by
  have h1 := h.2.2.2.2 g (World.block_lt_of_cell? _ _ hc) hg
  unfold World.cell? at hc ⊢
  simp only at hc ⊢
  rw [h1]
  exact hc
def KnL (cl : List Ob) (kind : Int) (pre : List Ob) (x : Ob) (W : World) : Prop := ∃ z ∈ cl, z.kind = kind ∧ (nms cl kind)[pre.length]? = some z.name.data.toList ∧ nf x = nf z ∧ x.Ok W
set_option maxHeartbeats 4000000 in
set_option maxRecDepth 100000 in
theorem list_in (m : Nat) (hm : 1 ≤ m) (l p b n bs bk n₀ : Nat) (D : DataW Value) (F : Nat → Prop) (cl : List Ob) (kind : Int) (hcl : cl.length ≤ 100000) (J Jx : List Ob → World → Prop) (w W : World) (hW : Below w.heap.size w W) (hn₀ : n₀ = w.heap.size)
    (hp : w.cell? ⟨p, 1, none⟩ = some (.map (some b))) (hmp : Mp Tryz.prog w 92 b n D) (R : SRel D F w cl) (hbs : w.cell? ⟨bs, 0, none⟩ = some (.pointer (some ⟨p, 0, none⟩))) (hbk : w.cell? ⟨bk, 0, none⟩ = some (.int .i64 kind))
    (hF : ¬ F p ∧ ¬ F b ∧ ¬ F bs ∧ ¬ F bk) (hJ : AbidesFrom W.heap.size J)
    (hY : ∀ pre x W1, J pre W1 → KnL cl kind pre x W1 → YieldAt Fence.wide (m - 1) Tryz.prog l #[.agg x.cells.toArray] W1 fun e W' => (e = .returned (.bool true) ∧ J (pre ++ [x]) W' ∧ KeepL n₀ F W1 W') ∨ (e = .returned (.bool false) ∧ Jx (pre ++ [x]) W' ∧ KeepL n₀ F W1 W'))
    (h0 : J [] W) :
    CallsIn Fence.wide m Tryz.prog 50 #[.func (.yield l) #[] #[], .pointer (some ⟨bs, 0, none⟩), .pointer (some ⟨bk, 0, none⟩)] W fun e W' => (∃ v, e = .returned v) ∧ ((∃ ys, ys.length = (nms cl kind).length ∧ J ys W') ∨ (∃ pre, Jx pre W')) := by
  have HP := Lib.hid (And.intro hp (And.intro hmp (And.intro R (And.intro hbs (And.intro hbk (And.intro hW hn₀))))))
  have HJ := Lib.hid (And.intro hJ (And.intro hY (And.intro h0 hF)))
  have e0 := keep_cell hW hbs
  have e1 := keep_cell hW hbk
  have e2 := keep_cell hW hp
  have hmW := hmp.below hW
  have HMW := Lib.hid hmW
  clear hp hmp R hbs hbk hW hn₀ hJ hY h0 hF hmW
  refine callsIn_of_wp Tryz.func50 rfl trivial ?_ rfl
  simp only [Tryz.ntmps50, List.size_toArray, List.length_cons, List.length_nil, Nat.reduceAdd, Nat.reduceSub, Array.replicate_succ, Array.replicate_zero, List.push_toArray, List.append_toArray, List.nil_append, List.cons_append]
  refine wpIn_seq ?_
  refine wpIn_wide.2 ?_
  refine wp_hide fun QA HQA => ?_
  go_wp2_with fail
  rw [HQA.out]
  simp only [Exit.then]
  refine wpIn_seq ?_
  refine wpIn_wide.2 ?_
  refine wp_hide fun QB HQB => ?_
  go_wp2_with fail
  rw [HQB.out]
  simp only [Exit.then]
  refine wpIn_seq ?_
  refine wpIn_wide.2 ?_
  refine wp_hide fun QC HQC => ?_
  go_wp2_with (at_range; refine wpList_range_own _ rfl _ 86 rfl 92 56 stK underSt asIs b n D rfl HMW.out ?_; intro w0 hrg0 hg0 hs0)
  have hB0 : Below W.heap.size W w0 := ⟨hg0.os, hg0.tape, hg0.output, hg0.size, fun i hi => hg0.block i hi (by simp)⟩
  have h0s : Hid (w0.ranges Tryz.prog 92 asIs b W.heap.size n D (Maps.has D) (Maps.size D) ∧ w0.ownsRow W.heap.size 9 1 (.slice none 0 0) ([] : List (List UInt8)).length (([] : List (List UInt8)).map encStr) ∧ ([] : List (List UInt8)).Nodup ∧ (∀ s, s ∈ ([] : List (List UInt8)) ↔ ∃ x ∈ cl, x.kind = kind ∧ x.name.data.toList = s ∧ Maps.has D (kOf kind x.name) = false) ∧ (∀ kl, Maps.has D kl = true → Maps.has D kl = true) ∧ Below W.heap.size W w0) := by
    refine ⟨hrg0, World.ownsRow_nil _ _ _ _, List.nodup_nil, fun s => ⟨fun h => (by cases h), ?_⟩, fun _ h => h, hB0⟩
    rintro ⟨x, hx, hk, _, hh⟩
    have := (HP.out.2.2.1.at1 x hx).1
    rw [hk, hh] at this
    cases this
  clear hg0 hs0 hB0 hrg0
  go_frame
  go_loopw [4] (fun nv wr => ∃ (left : Lit → Bool) (cn : Nat) (ss : List (List UInt8)), Hid (wr.ranges Tryz.prog 92 asIs b W.heap.size n D left cn ∧ wr.ownsRow W.heap.size 9 1 nv ss.length (ss.map encStr) ∧ ss.Nodup ∧ (∀ s, s ∈ ss ↔ ∃ x ∈ cl, x.kind = kind ∧ x.name.data.toList = s ∧ left (kOf kind x.name) = false) ∧ (∀ kl, left kl = true → Maps.has D kl = true) ∧ Below W.heap.size W wr)) (fun _ wr => wr.rangeLeft b W.heap.size)
  case atStart => exact ⟨_, _, [], h0s⟩
  case round =>
    clear h0s e0 e1 e2
    obtain ⟨left, cn, ss, hE⟩ := hrel
    obtain ⟨A1, c1, ev1, _⟩ := id (Sl.of_own hE.out.2.1)
    subst ev1
    go_wp2_with (at_next; refine wpList_next_ranges _ rfl _ rfl 92 stK asIs id id (fun key kl _ => ⟨key, rfl⟩) (fun v y _ => ⟨v, rfl⟩) b W.heap.size n D left cn rfl hE.out.1 ?_ ?_)
    · intro hc0 hl0
      have hnm : ss.mergeSort leB = nms cl kind := nms_of HP.out.2.2.1.uniq hE.out.2.2.1 fun s => by
        rw [hE.out.2.2.2.1]
        simp [hl0]
      have hssl : ss.length = (nms cl kind).length := by rw [← hnm]; simp
      have hlen : (nms cl kind).length ≤ 100000 := by
        refine Nat.le_trans ?_ hcl
        have h1 := List.Nodup.length_le_of_subset (l₂ := cl.map fun x : Ob => x.name.data.toList) (nms_nodup HP.out.2.2.1.uniq kind) fun s hs => by
          obtain ⟨x, hx, _, hn⟩ := nms_mem.1 hs
          exact List.mem_map.2 ⟨x, hx, hn⟩
        rwa [List.length_map] at h1
      have hso := sort_own wr W.heap.size _ ss hE.out.2.1 (by omega)
      rw [hnm] at hso
      have HSO := Lib.hid (And.intro hso (And.intro hE.out.2.1 hE.out.2.2.2.2.2))
      have HN := Lib.hid (And.intro hssl hlen)
      clear hso hnm hlen hl0 hc0 hE hssl
      go_wp2_with fail
      rw [HQC.out]
      simp only [Exit.then]
      refine wpIn_seq ?_
      refine wpIn_wide.2 ?_
      refine wp_hide fun QD HQD => ?_
      go_wp2_with fail
      refine HSO.out.1.mono ?_
      rintro e wS ⟨rfl, hown, hgr⟩
      have hBS : Below W.heap.size W wS := below_grown HSO.out.2.2 HSO.out.2.1 hgr HSO.out.2.2.size (Nat.le_refl _)
      rw [HN.out.1] at hown
      have HS := Lib.hid (And.intro hown hBS)
      clear hown hBS hgr
      go_wp2_with fail
      rw [HQD.out]
      simp only [Exit.then]
      obtain ⟨L, hL⟩ : ∃ L, L = nms cl kind := ⟨_, rfl⟩
      obtain ⟨N, hN⟩ : ∃ N, N = ss.length := ⟨_, rfl⟩
      have HLN := Lib.hid (show L = nms cl kind ∧ L.length = N ∧ N ≤ 100000 from ⟨hL, by rw [hL, hN, HN.out.1], by rw [hN, HN.out.1]; exact HN.out.2⟩)
      have hrow : wS.ownsRow W.heap.size 9 1 (.slice A1 N c1) N (L.map encStr) := by
        have := HS.out.1
        rw [← HN.out.1, ← hN, ← hL] at this
        exact this
      rw [← hN]
      have hNle := HLN.out.2.2
      have h0S : Hid (J [] wS ∧ wS.ownsRow W.heap.size 9 1 (.slice A1 N c1) N (L.map encStr) ∧ Tch F w wS ∧ W.heap.size ≤ wS.heap.size) := by
        refine ⟨HJ.out.1 [] W wS none HJ.out.2.2.1 ⟨HS.out.2.os, HS.out.2.tape, HS.out.2.output, HS.out.2.size, fun k hk _ => HS.out.2.block k hk⟩ (fun r e => by cases e), hrow, ?_, HS.out.2.size⟩
        exact (Tch.of_below HP.out.2.2.2.2.2.1).trans (Tch.of_below HS.out.2) fun _ _ h => h
      clear hL hN hrow HS HSO HN
      gi_wp2
      gi_loopw [32] (fun iv wr => ∃ pre : List Ob, pre.length ≤ N ∧ iv = .int .i64 pre.length ∧ Hid (J pre wr ∧ wr.ownsRow W.heap.size 9 1 (.slice A1 N c1) N (L.map encStr) ∧ Tch F w wr ∧ W.heap.size ≤ wr.heap.size)) (fun iv wr => N - (intOf iv).toNat)
      case atStart => exact ⟨[], Nat.zero_le _, rfl, h0S⟩
      case round =>
        clear h0S
        obtain ⟨pre, hk, rfl, hE⟩ := hrel
        by_cases hlt : pre.length < N
        · obtain ⟨g, cap, cur, eA, hg, hkg, h1, h2, h3, h4⟩ := own_parts hE.out.2.1 (by omega)
          injection eA with eA1 eA2 eA3
          subst eA1
          subst eA3
          have hkL : pre.length < L.length := by rw [HLN.out.2.1]; exact hlt
          obtain ⟨z, hz, hzk, hzn⟩ := nms_mem.1 (show L[pre.length] ∈ nms cl kind by rw [← HLN.out.1]; exact List.getElem_mem hkL)
          have c0 : wr.cell? ⟨g, pre.length, none⟩ = some (.string z.name) := by
            rw [hkg.cell, ← Array.getElem?_toList]
            have e : (cur.toList.take (N * 1))[pre.length]? = (L.map encStr)[pre.length]? := by rw [h4]
            rw [List.getElem?_take_of_lt (by omega), List.getElem?_map, List.getElem?_eq_getElem hkL, ← hzn] at e
            rw [e]
            simp [encStr]
          have hge : (0 : Int) ≤ (pre.length : Int) := by omega
          have hlt2 : (pre.length : Int) < (N : Int) := by omega
          obtain ⟨_, y, hval, hys, hynf⟩ := HP.out.2.2.1.at1 z hz
          have hyw := hys.tch hE.out.2.2.1 (F' := F) fun _ _ h => h
          have hT := hE.out.2.2.1
          have k1 := tch_cell hT HP.out.2.2.2.1 HJ.out.2.2.2.2.2.1
          have k2 := tch_cell hT HP.out.1 HJ.out.2.2.2.1
          have k3 := tch_cell hT HP.out.2.2.2.2.1 HJ.out.2.2.2.2.2.2
          have k4 : Mp Tryz.prog wr 92 b n D := HP.out.2.1.of_block (hT.2.2.2.2 b HP.out.2.1.lt HJ.out.2.2.2.2.1)
          have hkey := keyOf_st z.kind z.name (HP.out.2.2.1.ok _ (mem_keys hz)).1 (HP.out.2.2.1.ok _ (mem_keys hz)).2
          have HY := Lib.hid (And.intro hyw (And.intro hynf (And.intro hz (And.intro hzk hzn))))
          have HVAL := Lib.hid hval
          have HK := Lib.hid (And.intro k1 (And.intro k2 (And.intro k3 k4)))
          clear hval hys hynf hyw hT k1 k2 k3 k4 h1 h2 h3 h4 hkg hzn hz
          subst hzk
          gi_wp2
          refine wpIn_region_sched ⟨fun _ => trivial, fun _ _ _ _ => rfl⟩ [0, 1, 2, 3, 4, 5, 6, 7, 8] [9, 10, 11] [] (fun i => !(i == 1 || i == 4 || i == 5 || i == 8)) (fun w' => w'.cell? ⟨bs, 0, none⟩ = some (.pointer (some ⟨p, 0, none⟩)) ∧ w'.cell? ⟨p, 1, none⟩ = some (.map (some b)) ∧ w'.cell? ⟨bk, 0, none⟩ = some (.int .i64 z.kind) ∧ Mp Tryz.prog w' 92 b n D) (by kernel_rfl) (by kernel_rfl) (fun c a d v w h => by cases d <;> exact h) HK.out fun u0 Hu => ?_
          refine readsI_free (v := ?_) (by rfl) (by rfl) (fun w' => ?_) ?_
          rotate_left
          · go_simp
            with_reducible rfl
          simp only [Act.put, List.setIfInBounds_toArray, List.set_cons_zero, List.set_cons_succ, List.getElem_toArray, List.getElem_cons_succ, List.getElem_cons_zero]
          refine readsI_step (v := ?_) (by rfl) (by rfl) (by rfl) (fun w' hS => ?_) ?_
          rotate_left
          · have u1 := hS.1
            have u2 := hS.2.1
            have u3 := hS.2.2.1
            clear hS
            go_simp
            with_reducible rfl
          simp only [Act.put, List.setIfInBounds_toArray, List.set_cons_zero, List.set_cons_succ, List.getElem_toArray, List.getElem_cons_succ, List.getElem_cons_zero]
          refine readsI_free (v := ?_) (by rfl) (by rfl) (fun w' => ?_) ?_
          rotate_left
          · go_simp
            with_reducible rfl
          simp only [Act.put, List.setIfInBounds_toArray, List.set_cons_zero, List.set_cons_succ, List.getElem_toArray, List.getElem_cons_succ, List.getElem_cons_zero]
          refine readsI_free (v := ?_) (by rfl) (by rfl) (fun w' => ?_) ?_
          rotate_left
          · go_simp
            with_reducible rfl
          simp only [Act.put, List.setIfInBounds_toArray, List.set_cons_zero, List.set_cons_succ, List.getElem_toArray, List.getElem_cons_succ, List.getElem_cons_zero]
          refine readsI_step (v := ?_) (by rfl) (by rfl) (by rfl) (fun w' hS => ?_) ?_
          rotate_left
          · have u1 := hS.1
            have u2 := hS.2.1
            have u3 := hS.2.2.1
            clear hS
            go_simp
            with_reducible rfl
          simp only [Act.put, List.setIfInBounds_toArray, List.set_cons_zero, List.set_cons_succ, List.getElem_toArray, List.getElem_cons_succ, List.getElem_cons_zero]
          refine readsI_step (v := ?_) (by rfl) (by rfl) (by rfl) (fun w' hS => ?_) ?_
          rotate_left
          · have u1 := hS.1
            have u2 := hS.2.1
            have u3 := hS.2.2.1
            clear hS
            go_simp
            with_reducible rfl
          simp only [Act.put, List.setIfInBounds_toArray, List.set_cons_zero, List.set_cons_succ, List.getElem_toArray, List.getElem_cons_succ, List.getElem_cons_zero]
          refine readsI_free (v := ?_) (by rfl) (by rfl) (fun w' => ?_) ?_
          rotate_left
          · go_simp
            with_reducible rfl
          simp only [Act.put, List.setIfInBounds_toArray, List.set_cons_zero, List.set_cons_succ, List.getElem_toArray, List.getElem_cons_succ, List.getElem_cons_zero]
          refine readsI_free (v := ?_) (by rfl) (by rfl) (fun w' => ?_) ?_
          rotate_left
          · go_simp
            with_reducible rfl
          simp only [Act.put, List.setIfInBounds_toArray, List.set_cons_zero, List.set_cons_succ, List.getElem_toArray, List.getElem_cons_succ, List.getElem_cons_zero]
          refine readsI_step (v := ?_) (by rfl) (by rfl) (by rfl) (fun w' hS => ?_) ?_
          rotate_left
          · have hl := hS.2.2.2.run_look stK underSt (zero47 w') hkey
            rw [HVAL.out] at hl
            clear hS
            go_simp
            with_reducible rfl
          simp only [Act.put, List.setIfInBounds_toArray, List.set_cons_zero, List.set_cons_succ, List.getElem_toArray, List.getElem_cons_succ, List.getElem_cons_zero]
          refine readsI_nil ?_
          have bu : Below wr.heap.size wr u0 := by
            rw [Hu.out]
            exact (Below.refl _ _).drew
          have hSu : u0.cell? ⟨bs, 0, none⟩ = some (.pointer (some ⟨p, 0, none⟩)) ∧ u0.cell? ⟨p, 1, none⟩ = some (.map (some b)) ∧ u0.cell? ⟨bk, 0, none⟩ = some (.int .i64 z.kind) ∧ Mp Tryz.prog u0 92 b n D := ⟨keep_cell bu HK.out.1, keep_cell bu HK.out.2.1, keep_cell bu HK.out.2.2.1, HK.out.2.2.2.below bu⟩
          have hyu := HY.out.1.ok.below bu
          have HU0 := Lib.hid (And.intro bu hSu)
          clear bu hSu Hu
          refine earlyI_call ⟨fun _ => trivial, fun _ _ _ _ => rfl⟩ (R := fun v w' => ∃ V, v = .agg (y.reval V).cells.toArray ∧ y.News w' (u0.heap.size + 3) V ∧ Below u0.heap.size u0 w') 29 #[.agg y.cells.toArray] (by rfl) (by rfl) (by go_simp) (fun h => by cases h) ((callsIn_wide.2 (vclone_any y u0 hyu)).mono fun e w' ⟨V, he, hn, hb⟩ => ⟨_, he, V, rfl, hn, hb⟩) ?_
          rintro v wC ⟨V, rfl, hnews, bC⟩
          obtain ⟨bu, hSu⟩ := HU0.out
          have hSC : wC.cell? ⟨bs, 0, none⟩ = some (.pointer (some ⟨p, 0, none⟩)) ∧ wC.cell? ⟨p, 1, none⟩ = some (.map (some b)) ∧ wC.cell? ⟨bk, 0, none⟩ = some (.int .i64 z.kind) ∧ Mp Tryz.prog wC 92 b n D := ⟨keep_cell bC hSu.1, keep_cell bC hSu.2.1, keep_cell bC hSu.2.2.1, hSu.2.2.2.below bC⟩
          refine ⟨hSC, ?_⟩
          have bwC := below_tr bu bC
          have hTC : Tch F w wC := tch_below hE.out.2.2.1 bwC
          have hJC := HJ.out.1 pre wr wC none hE.out.1 ⟨bwC.os, bwC.tape, bwC.output, bwC.size, fun k hk _ => bwC.block k hk⟩ (fun r e => by cases e)
          have hxok := hyu.fit.ok hnews
          obtain ⟨x, hx⟩ : ∃ x, x = y.reval V := ⟨_, rfl⟩
          have hnfx : nf x = nf z := by rw [hx, nf_reval]; exact HY.out.2.1
          rw [← hx] at hxok ⊢
          clear hx
          obtain ⟨fn, tmps, assign, body, hy, hR⟩ := HJ.out.2.1 pre x wC hJC ⟨z, HY.out.2.2.1, rfl, by rw [← HLN.out.1, List.getElem?_eq_getElem hkL, HY.out.2.2.2.2], hnfx, hxok⟩
          have hown := own_below hE.out.2.1 bwC
          have HC := Lib.hid (And.intro hTC (And.intro hSC (And.intro hown (And.intro bwC.size hE.out.2.2.2))))
          clear hTC hSC hown bwC hJC hxok hnfx hSu bu bC hnews hyu hE HU0 HY
          simp only [Act.put, List.setIfInBounds_toArray, List.set_cons_zero, List.set_cons_succ, List.getElem_toArray, List.getElem_cons_succ, List.getElem_cons_zero]
          refine earlyI_round ⟨fun _ => trivial, fun _ _ _ _ => rfl⟩ (R := fun v w' => (v = .bool true ∧ J (pre ++ [x]) w' ∧ KeepL n₀ F wC w') ∨ (v = .bool false ∧ Jx (pre ++ [x]) w' ∧ KeepL n₀ F wC w')) (l := l) (fn := fn) (tmps := tmps) (assign := assign) (body := body) (by rfl) (by rfl) (by first | (go_simp; exact hy) | go_simp) (fun h => by cases h) (RoundIn.mono hR fun e w' he => ?_) ?_
          · rcases he with ⟨rfl, h⟩ | ⟨rfl, h⟩
            · exact ⟨_, rfl, .inl ⟨rfl, h⟩⟩
            · exact ⟨_, rfl, .inr ⟨rfl, h⟩⟩
          intro v w9 hv
          have hk9 : KeepL n₀ F wC w9 := by
            rcases hv with ⟨_, _, h⟩ | ⟨_, _, h⟩ <;> exact h
          have hT9 : Tch F w w9 := KeepL.tch HP.out.2.2.2.2.2.2 HC.out.1 hk9
          have hS9 : w9.cell? ⟨bs, 0, none⟩ = some (.pointer (some ⟨p, 0, none⟩)) ∧ w9.cell? ⟨p, 1, none⟩ = some (.map (some b)) ∧ w9.cell? ⟨bk, 0, none⟩ = some (.int .i64 z.kind) ∧ Mp Tryz.prog w9 92 b n D :=
            ⟨tch_cell hT9 HP.out.2.2.2.1 HJ.out.2.2.2.2.2.1, tch_cell hT9 HP.out.1 HJ.out.2.2.2.1, tch_cell hT9 HP.out.2.2.2.2.1 HJ.out.2.2.2.2.2.2, HP.out.2.1.of_block (hT9.2.2.2.2 b HP.out.2.1.lt HJ.out.2.2.2.2.1)⟩
          have hown9 : w9.ownsRow W.heap.size 9 1 (.slice (some ⟨g, 0, none⟩) N c1) N (L.map encStr) := own_block HC.out.2.2.1 fun g' hg' => by
            have h1 := HC.out.2.2.1.lt g' hg'
            injection hg' with hg'
            subst hg'
            obtain ⟨g2, cap2, cur2, e2, _, hk2, _⟩ := own_parts HC.out.2.2.1 (by omega)
            injection e2 with e2
            injection e2 with e2
            injection e2 with e2
            subst e2
            have h2 := hk9.2.2.2.2.2 g _ (by rw [HP.out.2.2.2.2.2.2]; exact Nat.le_trans HP.out.2.2.2.2.2.1.size h1.1) hk2 rfl
            exact h2.trans hk2.symm
          refine ⟨hS9, ?_⟩
          have H9 := Lib.hid (And.intro hT9 (And.intro hown9 (Nat.le_trans HC.out.2.2.2.2 (Nat.le_trans HC.out.2.2.2.1 hk9.2.2.2.1))))
          clear hk9 hT9 hown9 HC hR hy
          simp only [Act.put, List.setIfInBounds_toArray, List.set_cons_zero, List.set_cons_succ, List.getElem_toArray, List.getElem_cons_succ, List.getElem_cons_zero]
          rcases hv with ⟨rfl, hJ9, _⟩ | ⟨rfl, hJ9, _⟩
          · refine earlyI_run ⟨fun _ => trivial, fun _ _ _ _ => rfl⟩ (v := .bool false) (w1 := w9) (by rfl) (by rfl) (by go_simp) hS9 ?_
            simp only [Act.put, List.setIfInBounds_toArray, List.set_cons_zero, List.set_cons_succ, List.getElem_toArray, List.getElem_cons_succ, List.getElem_cons_zero]
            refine earlyI_nil ?_
            simp only [List.filterMap_nil]
            have HJ9 := Lib.hid hJ9
            clear hJ9 hS9
            gi_wp2
            go_roundw
            case rel => exact ⟨pre ++ [x], by simp; omega, by simp, ⟨HJ9.out, H9.out.2.1, H9.out.1, H9.out.2.2⟩⟩
            case measure => simp [intOf]; omega
          · refine earlyI_run ⟨fun _ => trivial, fun _ _ _ _ => rfl⟩ (v := .bool true) (w1 := w9) (by rfl) (by rfl) (by go_simp) hS9 ?_
            simp only [Act.put, List.setIfInBounds_toArray, List.set_cons_zero, List.set_cons_succ, List.getElem_toArray, List.getElem_cons_succ, List.getElem_cons_zero]
            refine earlyI_nil ?_
            simp only [List.filterMap_nil]
            have HJ9 := Lib.hid hJ9
            clear hJ9 hS9
            gi_wp2
            refine bodyPost_ret (results_none rfl _ _ _) rfl ?_
            exact ⟨⟨_, rfl⟩, .inr ⟨_, HJ9.out⟩⟩
        · have hke : pre.length = N := by omega
          have hJe := hE.out.1
          clear hE
          gi_wp2
          go_end0
          exact ⟨⟨_, rfl⟩, .inl ⟨pre, by rw [hke, ← HLN.out.2.1, HLN.out.1], hJe⟩⟩
    · intro x cv kl y1 y2 w1 cn1 hkey hlk hv hat hrg1 hlt hg1 hs1 hen
      try simp only [id] at hkey
      try simp only [id] at hv
      try simp only [id] at hen
      obtain ⟨⟨yk, yn⟩, hyk, rfl, rfl⟩ := key_inv hkey
      simp only at hen hlk hrg1
      have hykc : (yk, yn) ∈ keys cl := by
        refine Classical.byContradiction fun hno => ?_
        have h1 := HP.out.2.2.1.at0 (yk, yn) hyk hno
        rw [hE.out.2.2.2.2.1 _ hlk] at h1
        cases h1
      obtain ⟨z, hz, ez⟩ := List.mem_map.1 hykc
      have hssl : ss.length ≤ cl.length := by
        have h1 := List.Nodup.length_le_of_subset (l₂ := cl.map fun x : Ob => x.name.data.toList) hE.out.2.2.1 fun s hs => by
          obtain ⟨x, hx, _, hn, _⟩ := (hE.out.2.2.2.1 s).1 hs
          exact List.mem_map.2 ⟨x, hx, hn⟩
        rwa [List.length_map] at h1
      have hBw : Below W.heap.size W w1 := ⟨hg1.os.trans hE.out.2.2.2.2.2.os, hg1.tape.trans hE.out.2.2.2.2.2.tape, hg1.output.trans hE.out.2.2.2.2.2.output, Nat.le_trans hE.out.2.2.2.2.2.size hg1.size, fun i hi => (hg1.block i (Nat.lt_of_lt_of_le hi hE.out.2.2.2.2.2.size) (by simp; omega)).trans (hE.out.2.2.2.2.2.block i hi)⟩
      have BA := below_al w1 (.cells #[.int .i64 yk, .string yn] 92)
      have hBA : Below W.heap.size W (w1.alloc (.cells #[.int .i64 yk, .string yn] 92)) := hBw.trans (BA.mono hBw.size)
      have e1 : (w1.alloc (.cells #[.int .i64 yk, .string yn] 92)).cell? ⟨bk, 0, none⟩ = some (.int .i64 kind) := keep_cell hBA (keep_cell HP.out.2.2.2.2.2.1 HP.out.2.2.2.2.1)
      have hrow1 : w1.ownsRow W.heap.size 9 1 (.slice A1 ss.length c1) ss.length (ss.map encStr) := own_block hE.out.2.1 fun g hg => hg1.block g (hE.out.2.1.lt g hg).2 (fun e => by
        injection e with e
        exact Go.row_ne_iter hE.out.2.1 hE.out.1 (by rw [← e]; exact hg.symm))
      have hsame : ∀ x ∈ cl, x.kind = kind → (kOf kind x.name).sameKey (kOf yk yn) = decide ((yk, yn) = (kind, x.name)) := fun x hx hk => by
        by_cases e : (yk, yn) = (kind, x.name)
        · obtain ⟨rfl, rfl⟩ := Prod.mk.inj e
          rw [WideAt.sameKey_self (keyLit_kOf _ _)]
          simp
        · have hkx : KeyOk (kind, x.name) := hk ▸ HP.out.2.2.1.ok _ (mem_keys hx)
          rw [Maps.sameKey_ne (kOf_ne hkx hyk (fun e' => e e'.symm))]
          simp [e]
      have hHE := Lib.hid (And.intro hrg1 (And.intro hrow1 (And.intro hE.out.2.2.1 (And.intro hE.out.2.2.2.1 (And.intro hE.out.2.2.2.2.1 (And.intro hBA (And.intro hE.out.1 hlt)))))))
      have HKK := Lib.hid (And.intro hlk (And.intro hsame (And.intro hz ez)))
      have hssl2 : ss.length ≤ 100000 := Nat.le_trans hssl hcl
      clear hrg1 hrow1 hE hlk hat hv hkey hBw hBA BA hlt hg1 hs1 hykc hz ez hsame hssl
      by_cases hk : yk = kind
      · subst hk
        have hnew : ss.Nodup ∧ yn.data.toList ∉ ss := ⟨hHE.out.2.2.1, fun hs => by
          obtain ⟨x, hx, hxk, hxn, hxl⟩ := (hHE.out.2.2.2.1 _).1 hs
          rw [bytes_inj hxn, HKK.out.1] at hxl
          cases hxl⟩
        have hstr : encStr yn.data.toList = .string yn := by simp [encStr]
        have HN := Lib.hid (And.intro hnew hstr)
        clear hnew hstr
        obtain ⟨WA, hWA⟩ : ∃ WA, WA = (w1.alloc (.cells #[.int .i64 yk, .string yn] 92)).alloc (.cells #[.string yn] 9) := ⟨_, rfl⟩
        have BB : Below w1.heap.size w1 WA := by rw [hWA]; exact below_tr (below_al _ _) (below_al _ _)
        have hsl : Sl WA 1 (.slice (some ⟨w1.heap.size + 1, 0, none⟩) 1 1) 1 [.string yn] := by
          have h := Sl.made (w1.alloc (.cells #[.int .i64 yk, .string yn] 92)) #[.string yn] 9 (size := 1) 1 1 (Nat.le_refl _) rfl
          rw [World.size_alloc, ← hWA] at h
          exact h
        have HAP := Lib.hid (And.intro (own_below hHE.out.2.1 BB) (And.intro hsl (And.intro BB (show W.heap.size ≤ WA.heap.size by have h1 := hHE.out.2.2.2.2.2.1.size; have h2 := BB.size; rw [World.size_alloc] at h1; rw [hWA, World.size_alloc, World.size_alloc]; omega))))
        have HWA := Lib.hid hWA.symm
        clear hsl BB hWA
        go_wp2_with (at_builtin; rw [HWA.out]; refine wpl_append rfl _ _ _ rfl W.heap.size 9 _ 1 16 Tryz.underlying25 info_str rfl (by omega) (by omega) (.slice A1 ss.length c1) ss.length (ss.map encStr) rfl HAP.out.1 _ 1 [.string yn] rfl HAP.out.2.1 (by intro u hu; simp at hu; subst hu; rfl) (by omega) HAP.out.2.2.2 ?_; intro v' w6 hown6 hgrow6 hfrom6)
        have hr6 : w6.ranges Tryz.prog 92 asIs b W.heap.size n D (fun z => left z && !z.sameKey (kOf yk yn)) cn1 :=
          (ranges_below hHE.out.1 HAP.out.2.2.1).kept hgrow6 (Go.row_ne_low HAP.out.1 HMW.out.lt) (Go.row_ne_iter HAP.out.1 (ranges_below hHE.out.1 HAP.out.2.2.1))
        have hB6 : Below W.heap.size W w6 := below_grown (hHE.out.2.2.2.2.2.1.trans ((below_al _ _).mono hHE.out.2.2.2.2.2.1.size) |> fun h => by rw [← HWA.out]; exact h) HAP.out.1 hgrow6 HAP.out.2.2.2 (Nat.le_refl _)
        have hE6 : Hid (w6.ranges Tryz.prog 92 asIs b W.heap.size n D (fun z => left z && !z.sameKey (kOf yk yn)) cn1 ∧ w6.ownsRow W.heap.size 9 1 v' (ss ++ [yn.data.toList]).length ((ss ++ [yn.data.toList]).map encStr) ∧ (ss ++ [yn.data.toList]).Nodup ∧ (∀ s, s ∈ ss ++ [yn.data.toList] ↔ ∃ x ∈ cl, x.kind = yk ∧ x.name.data.toList = s ∧ (fun z => left z && !z.sameKey (kOf yk yn)) (kOf yk x.name) = false) ∧ (∀ kl, (fun z => left z && !z.sameKey (kOf yk yn)) kl = true → Maps.has D kl = true) ∧ Below W.heap.size W w6) := by
          refine ⟨hr6, ?_, ?_, fun s => ?_, fun kl h => hHE.out.2.2.2.2.1 kl (by simp at h; exact h.1), hB6⟩
          · rw [List.length_append, List.map_append, List.map_cons, List.map_nil, HN.out.2]
            exact hown6
          · refine List.nodup_append.2 ⟨HN.out.1.1, by simp, fun a ha c hc e => HN.out.1.2 ?_⟩
            simp only [List.mem_cons, List.not_mem_nil, or_false] at hc
            rw [← hc, ← e]
            exact ha
          · rw [List.mem_append, hHE.out.2.2.2.1]
            constructor
            · rintro (⟨x, hx, hk, hn, hl⟩ | h)
              · exact ⟨x, hx, hk, hn, by simp only [hl, Bool.false_and]⟩
              · simp only [List.mem_cons, List.not_mem_nil, or_false] at h
                obtain ⟨h1, h2⟩ := Prod.mk.inj HKK.out.2.2.2
                refine ⟨z, HKK.out.2.2.1, h1, by rw [h2, h], ?_⟩
                show (left (kOf yk z.name) && !(kOf yk z.name).sameKey (kOf yk yn)) = false
                rw [h2, WideAt.sameKey_self (keyLit_kOf _ _)]
                simp
            · rintro ⟨x, hx, hk, hn, hl⟩
              have hl' : (left (kOf yk x.name) && !(kOf yk x.name).sameKey (kOf yk yn)) = false := hl
              rw [HKK.out.2.1 x hx hk] at hl'
              by_cases e : yn = x.name
              · right
                simp [e, hn]
              · left
                refine ⟨x, hx, hk, hn, ?_⟩
                have : decide ((yk, yn) = (yk, x.name)) = false := by simp [e]
                rw [this] at hl'
                simpa using hl'
        exact ⟨⟨_, cn1, _, hE6⟩, by rw [hr6.left_eq, hHE.out.2.2.2.2.2.2.1.left_eq]; exact hHE.out.2.2.2.2.2.2.2⟩
      · go_wp2_with fail
        have hr6 := ranges_below hHE.out.1 (below_al w1 (.cells #[.int .i64 yk, .string yn] 92))
        have hE6 : Hid ((w1.alloc (.cells #[.int .i64 yk, .string yn] 92)).ranges Tryz.prog 92 asIs b W.heap.size n D (fun z => left z && !z.sameKey (kOf yk yn)) cn1 ∧ (w1.alloc (.cells #[.int .i64 yk, .string yn] 92)).ownsRow W.heap.size 9 1 (.slice A1 ss.length c1) ss.length (ss.map encStr) ∧ ss.Nodup ∧ (∀ s, s ∈ ss ↔ ∃ x ∈ cl, x.kind = kind ∧ x.name.data.toList = s ∧ (fun z => left z && !z.sameKey (kOf yk yn)) (kOf kind x.name) = false) ∧ (∀ kl, (fun z => left z && !z.sameKey (kOf yk yn)) kl = true → Maps.has D kl = true) ∧ Below W.heap.size W (w1.alloc (.cells #[.int .i64 yk, .string yn] 92))) := by
          refine ⟨hr6, own_below hHE.out.2.1 (below_al _ _), hHE.out.2.2.1, fun s => ?_, fun kl h => hHE.out.2.2.2.2.1 kl (by simp at h; exact h.1), hHE.out.2.2.2.2.2.1⟩
          rw [hHE.out.2.2.2.1]
          refine exists_congr fun x => and_congr_right fun hx => and_congr_right fun hkx => and_congr_right fun _ => ?_
          show _ ↔ (left (kOf kind x.name) && !(kOf kind x.name).sameKey (kOf yk yn)) = false
          rw [HKK.out.2.1 x hx hkx]
          have : decide ((yk, yn) = (kind, x.name)) = false := by simp [hk]
          rw [this]
          simp
        exact ⟨⟨_, cn1, _, hE6⟩, by rw [hr6.left_eq, hHE.out.2.2.2.2.2.2.1.left_eq]; exact hHE.out.2.2.2.2.2.2.2⟩
theorem list_knows (m : Nat) (hm : 1 ≤ m) {p b n bs bk : Nat} {D : DataW Value} {F : Nat → Prop} {cl : List Ob} (kind : Int) (hcl : cl.length ≤ 100000) (w : World) (hp : w.cell? ⟨p, 1, none⟩ = some (.map (some b))) (hmp : Mp Tryz.prog w 92 b n D) (R : SRel D F w cl) (hbs : w.cell? ⟨bs, 0, none⟩ = some (.pointer (some ⟨p, 0, none⟩))) (hbk : w.cell? ⟨bk, 0, none⟩ = some (.int .i64 kind)) (hF : ¬ F p ∧ ¬ F b ∧ ¬ F bs ∧ ¬ F bk) :
    SeqKnows Fence.wide m Tryz.prog 50 #[.pointer (some ⟨bs, 0, none⟩), .pointer (some ⟨bk, 0, none⟩)] (fun x : Ob => #[Value.agg x.cells.toArray]) (KeepL w.heap.size F) (KnL cl kind) (fun ys => ys.length = (nms cl kind).length) w := fun l J Jx W hW hJ _ hY h0 =>
  list_in m hm l p b n bs bk w.heap.size D F cl kind hcl J Jx w W hW rfl hp hmp R hbs hbk hF hJ hY h0
end Go.Proofs.YtcbnmoghjhljbaaGreat
end
section
namespace Go.Proofs.YtcbnmoghjhljbaaGreat
open Go.RowKit Go.Proofs.Mem
set_option linter.unusedVariables false
set_option linter.unusedSimpArgs false
theorem nm_s {s : ByteArray} (h : nmB s = true) : s255 s := by
  unfold nmB at h
  simp only [Bool.and_eq_true, decide_eq_true_eq] at h
  unfold s255
  omega
theorem empty_s {s : ByteArray} (h : s = ByteArray.empty) : s255 s := by
  subst h
  show ByteArray.empty.size ≤ 255
  decide
theorem strE_s {s : ByteArray} (h : strE s = true) : s255 s := by
  unfold strE at h
  rw [beq_iff_eq, ByteArray.toList_eq, ByteArray.toList_eq] at h
  exact empty_s (ByteArray.ext (Array.toList_inj.1 h))
theorem kv_s {k v : ByteArray} (h : kvB k v = true) : s255 k ∧ s255 v := by
  unfold kvB at h
  simp only [Bool.and_eq_true, Bool.or_eq_true, decide_eq_true_eq] at h
  exact ⟨nm_s h.1, h.2.elim empty_s nm_s⟩
theorem rt_s {l : List Lab} (h : rtB l = true) : LabsS l := by
  unfold rtB at h
  simp only [Bool.and_eq_true, decide_eq_true_eq] at h
  refine ⟨by omega, fun x hx => ?_⟩
  obtain ⟨i, hi, rfl⟩ := List.mem_iff_getElem.1 hx
  exact kv_s (h.1 i hi).1
theorem ak_s {l : List Req} (h : aksB l = true) : ReqsS l := by
  unfold aksB at h
  simp only [Bool.and_eq_true, decide_eq_true_eq] at h
  refine ⟨by omega, fun x hx => ?_⟩
  have h1 := List.all_eq_true.1 h.1 x hx
  unfold rqB at h1
  simp only [Bool.and_eq_true] at h1
  exact kv_s h1.1
theorem wants_s {a b : Int} {l : List Lab} {s : List Req} {t : List Lab} {wm : Int} (h : wantsB a b l s t wm = true) : LabsS l ∧ ReqsS s ∧ LabsS t := by
  unfold wantsB at h
  simp only [Bool.and_eq_true] at h
  exact ⟨rt_s h.2.1, ak_s h.2.2.1, rt_s h.2.2.2.1⟩
theorem accM_true {b : Bool} {l : List Mem.Met} : ∀ {k : Nat}, accM b l k = true → b = true ∧ ∀ i (h : i < l.length), i < k → nmB l[i].name = true
  | 0, h => ⟨h, fun i _ hi => absurd hi (Nat.not_lt_zero _)⟩
  | k + 1, h => by
    unfold accM at h
    split at h
    · rename_i hk
      have hm : accM b l k = true := by
        cases hc : accM b l k with
        | true => rfl
        | false => rw [hc] at h; simp [mT] at h
      obtain ⟨h1, h2⟩ := accM_true hm
      refine ⟨h1, fun i hi hik => ?_⟩
      rcases Nat.lt_or_eq_of_le (Nat.le_of_lt_succ hik) with e | e
      · exact h2 i hi e
      · subst e
        rw [hm] at h
        unfold mT at h
        simp only [Bool.and_eq_true] at h
        exact h.1.1.1.2
    · cases h
theorem accP_true {b : Bool} {l : List Done} : ∀ {k : Nat}, accP b l k = true → b = true
  | 0, h => h
  | k + 1, h => by
    unfold accP at h
    split at h
    · rename_i hk
      have hm : accP b l k = true := by
        cases hc : accP b l k with
        | true => rfl
        | false => rw [hc] at h; simp [dT, dS] at h
      exact accP_true hm
    · cases h
theorem obs_of_err {o : Ob} (h : errO o = 0) : (0 ≤ o.kind ∧ o.kind ≤ 4) ∧ ObS o := by
  unfold errO at h
  split at h
  case isFalse => cases h
  rename_i hk
  refine ⟨hk, ?_⟩
  unfold errN at h
  split at h
  case isFalse => cases h
  rename_i hn
  split at h
  case isFalse => cases h
  rename_i hm
  refine ⟨nm_s hn, fun e => ?_, fun e => ?_, fun e => ?_, fun e => ?_, fun e => ?_⟩
  · have h1 : mayW (emptyB o) o.w = true := by
      unfold mayO at hm
      simpa [e] using hm
    unfold mayW at h1
    simp only [Bool.and_eq_true] at h1
    exact wants_s h1.2
  · have h1 : mayP (emptyB o) o.p = true := by
      unfold mayO at hm
      simpa [e] using hm
    unfold mayP mayP1 at h1
    simp only [Bool.and_eq_true, Bool.or_eq_true] at h1
    obtain ⟨⟨⟨⟨⟨⟨⟨⟨h1, h2⟩, h3⟩, _⟩, _⟩, _⟩, _⟩, h4⟩, _⟩ := h1
    exact ⟨nm_s h2, h3.elim strE_s nm_s, wants_s h4⟩
  · have h1 : mayN (emptyB o) o.n = true := by
      unfold mayO at hm
      simpa [e] using hm
    unfold mayN at h1
    simp only [Bool.and_eq_true, Bool.or_eq_true] at h1
    obtain ⟨⟨⟨⟨⟨⟨h1, h2⟩, _⟩, h3⟩, h4⟩, _⟩, _⟩ := h1
    exact ⟨h2.elim strE_s nm_s, rt_s h3, rt_s h4⟩
  · have h1 : mayG (emptyB o) o.g = true := by
      unfold mayO at hm
      simpa [e] using hm
    unfold mayG at h1
    simp only [Bool.and_eq_true] at h1
    obtain ⟨⟨⟨⟨_, h3⟩, h4⟩, _⟩, _⟩ := h1
    exact ⟨rt_s h3, rt_s h4⟩
  · have h1 : mayH (emptyB o) o.h = true := by
      unfold mayO at hm
      simpa [e] using hm
    unfold mayH at h1
    obtain ⟨h2, h3⟩ := accM_true h1
    simp only [Bool.and_eq_true, decide_eq_true_eq] at h2
    obtain ⟨h4, h5⟩ := h2
    have h6 := accP_true h4
    unfold mayH0 at h6
    simp only [Bool.and_eq_true, decide_eq_true_eq] at h6
    obtain ⟨⟨⟨⟨⟨⟨⟨⟨⟨⟨_, t1⟩, _⟩, _⟩, _⟩, _⟩, t2⟩, _⟩, _⟩, t3⟩, t4⟩ := h6
    unfold goesB at t3 t4
    simp only [Bool.and_eq_true, decide_eq_true_eq] at t3 t4
    refine ⟨nm_s t1, by omega, fun m hm => ?_, ?_, ?_, by omega⟩
    · obtain ⟨i, hi, rfl⟩ := List.mem_iff_getElem.1 hm
      exact nm_s (h3 i hi hi)
    · have := t3.2.2
      unfold BhS
      omega
    · have := t4.2.2
      unfold BhS
      omega
theorem objB_nf {o o' : Ob} (h : nf o = nf o') : objB o = objB o' := (congrArg objB h : objB (nf o) = objB (nf o'))
end Go.Proofs.YtcbnmoghjhljbaaGreat
end
section
namespace Go.Proofs.YtcbnmoghjhljbaaGreat
open Go.RowKit Go.Proofs.Mem Go.Shelf
set_option linter.unusedVariables false
set_option linter.unusedSimpArgs false
theorem marks_leave {F : Fence} {n : Nat} {P : Program} {fn : Func} {tmps : Array Value} {R : Ending → World → Prop} : ∀ (ms : List Nat) (w : World), ms.Nodup → (∀ D ∈ ms, w.heap[D]? = some (.deferred (some []))) →
    (∀ w' : World, w'.os = w.os → w'.tape = w.tape → w'.output = w.output → w'.heap.size = w.heap.size → (∀ i, i ∉ ms → w'.heap[i]? = w.heap[i]?) → LeavesIn F n P fn tmps R [] .returning w') →
    LeavesInM F n P fn tmps R (ms.map fun D => ({ target := .collected D, args := #[] } : Deferred)) .returning w
  | [], w, _, _, h => h w rfl rfl rfl rfl fun _ _ => rfl
  | D :: r, w, hn, hd, h => by
    obtain ⟨hn1, hn2⟩ := List.nodup_cons.1 hn
    have h0 := hd D (List.mem_cons_self ..)
    refine ⟨by simp, .inl ⟨D, _, rfl, run_takeDeferred h0, ?_⟩⟩
    refine marks_leave r _ hn2 (fun E hE => (World.putObj_heap_other (fun e => hn1 (by rw [← e]; exact hE))).trans (hd E (List.mem_cons_of_mem _ hE))) fun w' a1 a2 a3 a4 a5 => h w' a1 a2 a3 (by rw [a4]; simp [World.putObj]) fun i hi => ?_
    rw [List.mem_cons, not_or] at hi
    exact (a5 i hi.2).trans (World.putObj_heap_other (fun e => hi.1 e))
end Go.Proofs.YtcbnmoghjhljbaaGreat
end
section
namespace Go.Proofs.YtcbnmoghjhljbaaGreat
open Go.RowKit Go.Proofs.Mem
open Go.Maps (Keyed)
set_option linter.unusedVariables false
set_option linter.unusedSimpArgs false
theorem slen (w : World) (p b n : Nat) (D : DataW Value) (most : Int) (now : Nat) (ev : Value) (evs : List Ev) (h : StIs w p b n D most now ev evs) : Calls Tryz.prog 37 #[.pointer (some ⟨p, 0, none⟩)] w fun e w' => e = .returned (.int .i64 (Maps.size D)) ∧ w' = w := by
  obtain ⟨d0, d1, d2, d3⟩ := h.cells
  go_enter Tryz.func37, Tryz.ntmps37
  go_wp2_with (refine wpl_len_map rfl _ 86 rfl 92 56 underSt b n D rfl h.2.2.1 ?_)
  go_ret
  exact ⟨rfl, rfl⟩
theorem snow (w : World) (p b n : Nat) (D : DataW Value) (most : Int) (now : Nat) (ev : Value) (evs : List Ev) (h : StIs w p b n D most now ev evs) : Calls Tryz.prog 38 #[.pointer (some ⟨p, 0, none⟩)] w fun e w' => e = .returned (.int .u64 now) ∧ w' = w := by
  obtain ⟨d0, d1, d2, d3⟩ := h.cells
  go_enter Tryz.func38, Tryz.ntmps38
  go_wp2_with fail
  go_ret
  exact ⟨rfl, rfl⟩
end Go.Proofs.YtcbnmoghjhljbaaGreat
end
section
namespace Go.Proofs.YtcbnmoghjhljbaaGreat
open Go.RowKit Go.Proofs.Mem Go.Shelf Go.Sort
set_option linter.unusedVariables false
set_option linter.unusedSimpArgs false
attribute [local go_sem] Oper.semAt_some
theorem wpIn_hide {F : Fence} {n : Nat} {P : Program} {c : Code} {Q : Exit → Act → World → Prop} {a : Act} {w : World} (h : ∀ Q' : Exit → Act → World → Prop, RowKit.Hid (Q' = Q) → c.wpIn F n P Q' a w) : c.wpIn F n P Q a w := h Q rfl
def mkM (D : Nat) : Deferred := { target := .collected D, args := #[] }
theorem bk_kept {W W' : World} {g : Nat} {t : TypeId} {cs : Array Value} {row : Option Nat} (h : Bk W g t cs) (hg : W.grownBy W' row) (hr : ∀ r, row = some r → ∃ o : Obj, W.heap[r]? = some o ∧ o.isCells = false) : Bk W' g t cs := h.grown hg fun e => by
  obtain ⟨o, ho, hc⟩ := hr g e.symm
  have h2 : W.heap[g]? = some (.cells cs t (0, 0)) := h
  rw [ho] at h2
  injection h2 with h2
  rw [h2] at hc
  cases hc
theorem sl_kept {w w' : World} {s n : Nat} {v : Value} {xs : List Value} {row : Option Nat} (h : Sl w s v n xs) (hg : w.grownBy w' row) (hr : ∀ r, row = some r → ∃ o : Obj, w.heap[r]? = some o ∧ o.isCells = false) : Sl w' s v n xs := by
  obtain ⟨A, c, e, hc, hn, hl, hx⟩ := h
  refine ⟨A, c, e, hc, hn, hl, fun h0 => ?_⟩
  obtain ⟨ad, e1, hlt, hcell⟩ := hx h0
  exact ⟨ad, e1, Nat.lt_of_lt_of_le hlt hg.size, fun j u hj => cell_kept (hcell j u hj) hg hr⟩
theorem ok_kept {x : Ob} {w w' : World} {row : Option Nat} (ho : x.Ok w) (hg : w.grownBy w' row) (hr : ∀ r, row = some r → ∃ o : Obj, w.heap[r]? = some o ∧ o.isCells = false) : x.Ok w' := by
  have sl : ∀ {α : Type} {r : Row α} {s bytes : Nat} {f : α → List Value} {p : α → Prop}, r.Ok w s bytes f p → r.Ok w' s bytes f p := fun h => ⟨sl_kept h.1 hg hr, h.2⟩
  exact ⟨ho.kind, ho.name, ho.version,
    ⟨ho.w.replicas, ho.w.cpu, ho.w.mem, sl ho.w.labels, sl ho.w.select, sl ho.w.tolerate, ho.w.warm⟩,
    ⟨ho.p.owner, ho.p.node, ho.p.phase, ho.p.since, ho.p.cpu, ho.p.mem, sl ho.p.labels, sl ho.p.select, sl ho.p.tolerate, ho.p.warm⟩,
    ⟨ho.n.group, ho.n.cpu, ho.n.mem, sl ho.n.labels, sl ho.n.taints, ho.n.since⟩,
    ⟨ho.g.min, ho.g.max, ho.g.target, ho.g.cpu, ho.g.mem, sl ho.g.labels, sl ho.g.taints, ho.g.priority⟩,
    ⟨ho.h.target, ho.h.min, ho.h.max, sl ho.h.metrics, ho.h.tolerance, ⟨ho.h.up.window, ho.h.up.pick, sl ho.h.up.policies⟩, ⟨ho.h.down.window, ho.h.down.pick, sl ho.h.down.policies⟩, sl ho.h.past⟩⟩
theorem KnL.below {cl : List Ob} {kind : Int} {pre : List Ob} {x : Ob} {W W' : World} (h : KnL cl kind pre x W) (hb : Below W.heap.size W W') : KnL cl kind pre x W' := by
  obtain ⟨z, hz, h1, h2, h3, h4⟩ := h
  exact ⟨z, hz, h1, h2, h3, h4.below hb⟩
section
variable {F : Fence} {n : Nat} {P : Program} {ops : Array Oper} {rest : List Oper} {o : Oper} {a : Act} {w w' : World} {Q : Exit → Act → World → Prop} {t : TypeId} {zs cs : Array Value} {g : Nat} {v : Value}
theorem wplI_run (hall : ∀ f, F.fn f) (hsem : ∀ ev, o.semAt F.round ev = execOp ev o) (hw : Region.wanted o (yielded ops a.tmps) = true) (hr : (execOp a.eval o).run P w = .ok (.value v) w') (h : wpListIn F n P ops Q rest (a.put o.dst v) w') : wpListIn F n P ops Q (o :: rest) a w := by
  simp only [wpListIn, hw, if_true]
  exact ⟨fun f _ => hall f, by rw [hsem, hr]; exact h⟩
theorem wplI_storeg (hall : ∀ f, F.fn f) (hsem : ∀ ev, o.semAt F.round ev = execOp ev o) (hk : Bk w g t zs) (hl : zs.size = cs.size) (hw : Region.wanted o (yielded ops a.tmps) = true) (hd : o.dst = none) (ty : TypeId) (x y : Operand) (ho : o.op = .store ty x y)
    (hx : a.eval x = .pointer (some ⟨g, 0, none⟩)) (hy : a.eval y = .agg cs) (hi : (P.info? ty).map (·.size) = some cs.size) (h1 : cs.toList.all (·.oneCell') = true)
    (h : wpListIn F n P ops Q rest a (w.setCells g 0 cs.toList)) : wpListIn F n P ops Q (o :: rest) a w := by
  simp only [wpListIn, hw, if_true]
  refine ⟨fun f _ => hall f, ?_⟩
  rw [hsem, run_store_op hk hl ty x y ho hx hy hi h1]
  simp only [Oper.uponIn, hd]
  exact h
end
section
variable {P : Program} {ops : Array Oper} {w0 : World} {Q : Act → Prop} {a : Act} {o : Oper} {rest : List Oper}
end
end Go.Proofs.YtcbnmoghjhljbaaGreat
end
section
namespace Go.Proofs.YtcbnmoghjhljbaaGreat
open Go.RowKit Go.Proofs.Mem
set_option linter.unusedVariables false
set_option linter.unusedSimpArgs false
theorem safe_old {x : Ob} {w w' : World} (h : x.Ok w) (hb : Below w.heap.size w w') : x.Safe (fun j => w.heap.size ≤ j) w' :=
  Ob.Safe.tch (F := fun _ => False) ⟨h, fun _ _ _ _ _ _ _ _ _ hf => hf⟩ (Tch.of_below hb) fun i hi h => absurd hi (Nat.not_lt.2 h)
theorem row_nil {α : Type} {w : World} {s bytes : Nat} {f : α → List Value} {p : α → Prop} : (Row.nil : Row α).Ok w s bytes f p := ⟨Sl.nil w s, by simp [Row.nil], fun x hx => by cases hx⟩
theorem zero_ok (w : World) : Ob.zero.Ok w :=
  ⟨rfl, Nat.zero_le _, rfl, ⟨rfl, rfl, rfl, row_nil, row_nil, row_nil, rfl⟩, ⟨Nat.zero_le _, Nat.zero_le _, rfl, rfl, rfl, rfl, row_nil, row_nil, row_nil, rfl⟩, ⟨Nat.zero_le _, rfl, rfl, row_nil, row_nil, rfl⟩, ⟨rfl, rfl, rfl, rfl, rfl, row_nil, row_nil, rfl⟩,
    ⟨Nat.zero_le _, rfl, rfl, row_nil, rfl, ⟨rfl, rfl, row_nil⟩, ⟨rfl, rfl, row_nil⟩, row_nil⟩⟩
theorem zero_cells : Ob.zero.cells.toArray = Z47 := rfl
end Go.Proofs.YtcbnmoghjhljbaaGreat
end
section
namespace Go.Proofs.Mem
open Go Go.RowKit
set_option linter.unusedVariables false
section
variable {P : Program} {ops : Array Oper} {Q : Exit → Act → World → Prop} {S : World → Prop} {late : Nat → Bool}
end
end Go.Proofs.Mem
namespace Go.Proofs.YtcbnmoghjhljbaaGreat
open Go.RowKit Go.Proofs.Mem
set_option linter.unusedVariables false
set_option linter.unusedSimpArgs false
theorem safe_less {x : Ob} {F F' : Nat → Prop} {w : World} (h : x.Safe F w) (hF : ∀ j, F' j → F j) : x.Safe F' w := ⟨h.1, fun k hk v e ad n c h1 h2 h3 => h.2 k hk v e ad n c h1 h2 (hF _ h3)⟩
end Go.Proofs.YtcbnmoghjhljbaaGreat
end
section
namespace Go.Proofs.YtcbnmoghjhljbaaGreat
open Go.RowKit Go.Proofs.Mem
set_option linter.unusedVariables false
set_option linter.unusedSimpArgs false
def PS (p b : Nat) (ev : Value) (j : Nat) : Prop := j = p ∨ j = b ∨ ev.ownBlock = some j
def mkV (o : Ob) (v : Nat) : Ob := ⟨o.kind, o.name, (v : Int), o.dflt.w, o.dflt.p, o.dflt.n, o.dflt.g, o.dflt.h⟩
def S8 (B : Nat) (w : World) (p b : Nat) (most : Int) (evs : List Ev) (cl : List Ob) : Prop :=
  ∃ n D ev, StIs w p b n D most evs.length ev evs ∧ SRel D (PS p b ev) w cl ∧ B ≤ b ∧ n ≤ evs.length ∧ cl.length ≤ evs.length ∧ ∀ x ∈ cl, errO x = 0
section
variable {B : Nat} {w w' : World} {p b n : Nat} {D D' : DataW Value} {most : Int} {ev ev' : Value} {evs : List Ev} {cl cl' : List Ob}
theorem ps_lt (h : StIs w p b n D most evs.length ev evs) {j : Nat} (hj : PS p b ev j) : j < w.heap.size := by
  rcases hj with rfl | rfl | hj
  · exact h.2.1.lt
  · exact h.2.2.1.lt
  · exact (h.evGe hj).2
theorem ps_low (h : StIs w p b n D most evs.length ev evs) (hB : B ≤ b) {j : Nat} (hj : PS p b ev j) : B ≤ j := by
  have h1 := h.1.1
  rcases hj with rfl | rfl | hj
  · omega
  · exact hB
  · have := (h.evGe hj).1.1; omega
theorem SRel.tch {F F' : Nat → Prop} (R : SRel D F w cl) (ht : Tch F w w') (hF : ∀ i, i < w.heap.size → F' i → F i) : SRel D F' w' cl where
  size := R.size
  at1 := fun x hx => by
    obtain ⟨h1, y, h2, h3, h4⟩ := R.at1 x hx
    exact ⟨h1, y, h2, h3.tch ht hF, h4⟩
  at0 := R.at0
  ok := R.ok
  uniq := R.uniq
theorem S8.below (M : S8 B w p b most evs cl) (hb : Below w.heap.size w w') : S8 B w' p b most evs cl := by
  obtain ⟨n, D, ev, st, R, h⟩ := M
  exact ⟨n, D, ev, st.below hb, R.tch (Tch.of_below hb) fun _ _ h => h, h⟩
theorem tch_ps {w1 : World} (hb : Below w.heap.size w w1) (ht : T3 p b ev w1 w') : Tch (PS p b ev) w w' :=
  (Tch.of_below hb).trans (tch_t3 ht fun j hj => ⟨fun e => hj (.inl e), fun e => hj (.inr (.inl e)), fun e => hj (.inr (.inr e.symm))⟩) fun _ _ h => h
theorem ps_to (he : EvTo w ev ev') : ∀ i, i < w.heap.size → PS p b ev' i → PS p b ev i := by
  rintro i hi (h | h | h)
  · exact .inl h
  · exact .inr (.inl h)
  · rcases he with e | ⟨g, hg, e⟩
    · exact .inr (.inr (e ▸ h))
    · rw [e] at h; injection h with h; omega
theorem evTo_from {w1 : World} (hb : Below w.heap.size w w1) (h : EvTo w1 ev ev') : EvTo w ev ev' := EvTo.trans hb.size (EvTo.refl _ _) h
theorem SRel.look {F : Nat → Prop} (R : SRel D F w cl) (k : Int × ByteArray) (hk : KeyOk k) :
    ∃ (Lw : Array Value) (vw : Nat), Is47 Lw ∧ Lw[2]? = some (.int .u64 vw) ∧ valAt D (kOf k.1 k.2) (.agg Z47) = .agg Lw ∧ (findN k.1 k.2 cl = none → Maps.has D (kOf k.1 k.2) = false) ∧
      (∀ i, findN k.1 k.2 cl = some i → Maps.has D (kOf k.1 k.2) = true ∧ ∃ hi : i < cl.length, (cl[i]).version = (vw : Int)) := by
  cases hf : findN k.1 k.2 cl with
  | none =>
    have h0 := R.at0 k hk (findN_none hf)
    exact ⟨Z47, 0, z47_is, ver0, valAt_not h0 _, fun _ => h0, fun i e => (by cases e)⟩
  | some i =>
    obtain ⟨hi, e1, e2⟩ := findN_some hf
    obtain ⟨h1, y, h2, h3, h4⟩ := R.at1 _ (List.getElem_mem hi)
    rw [e1, e2] at h1 h2
    have hv := version_nat h3.ok.fit
    refine ⟨y.cells.toArray, y.version.toNat, cells_is y h3.ok, ?_, h2, fun e => (by cases e), fun j e => ?_⟩
    · rw [← hv]; rfl
    · injection e with e
      subst e
      exact ⟨h1, hi, by rw [← nf_ver h4, ← hv]⟩
end
def KeepU (n₀ p b : Nat) (G : Nat → Prop) (W W' : World) : Prop := W'.os = W.os ∧ W'.tape = W.tape ∧ W'.output = W.output ∧ W.heap.size ≤ W'.heap.size ∧ (∀ u, W.cell? ⟨p, 1, none⟩ = some u → W'.cell? ⟨p, 1, none⟩ = some u) ∧
  ∀ ev, W.cell? ⟨p, 3, none⟩ = some ev → ∃ ev', W'.cell? ⟨p, 3, none⟩ = some ev' ∧ EvTo W ev ev' ∧ ∀ i o, W.heap[i]? = some o → (i < n₀ ∨ o.isCells = true) → ¬ PS p b ev i → ¬ G i → W'.heap[i]? = some o
section
variable {n₀ p b : Nat} {G : Nat → Prop} {A B C : World}
theorem KeepU.inv {ev : Value} (h : KeepU n₀ p b G A B) (he : A.cell? ⟨p, 3, none⟩ = some ev) : ∃ ev', B.cell? ⟨p, 3, none⟩ = some ev' ∧ EvTo A ev ev' := by
  obtain ⟨ev', h1, h2, _⟩ := h.2.2.2.2.2 ev he
  exact ⟨ev', h1, h2⟩
theorem KeepU.frame {ev : Value} {i : Nat} {o : Obj} (h : KeepU n₀ p b G A B) (he : A.cell? ⟨p, 3, none⟩ = some ev) (ho : A.heap[i]? = some o) (hi : i < n₀ ∨ o.isCells = true) (hp : ¬ PS p b ev i) (hg : ¬ G i) : B.heap[i]? = some o := by
  obtain ⟨ev', h1, h2, h3⟩ := h.2.2.2.2.2 ev he
  exact h3 i o ho hi hp hg
theorem KeepU.trans (h : KeepU n₀ p b G A B) (k : KeepU n₀ p b G B C) : KeepU n₀ p b G A C := by
  refine ⟨k.1.trans h.1, k.2.1.trans h.2.1, k.2.2.1.trans h.2.2.1, Nat.le_trans h.2.2.2.1 k.2.2.2.1, fun u hu => k.2.2.2.2.1 u (h.2.2.2.2.1 u hu), fun ev he => ?_⟩
  obtain ⟨ev1, h1, h2, h3⟩ := h.2.2.2.2.2 ev he
  obtain ⟨ev2, k1, k2, k3⟩ := k.2.2.2.2.2 ev1 h1
  exact ⟨ev2, k1, EvTo.trans h.2.2.2.1 h2 k2, fun i o ho hi hp hg => k3 i o (h3 i o ho hi hp hg) hi (fun hq => hp (ps_to h2 i (Array.getElem?_eq_some_iff.1 ho).1 hq)) hg⟩
theorem KeepU.of_below (h : Below A.heap.size A B) : KeepU n₀ p b G A B :=
  ⟨h.os, h.tape, h.output, h.size, fun u hu => keep_cell h hu, fun ev he => ⟨ev, keep_cell h he, EvTo.refl _ _, fun i o ho _ _ _ => (h.block i (Array.getElem?_eq_some_iff.1 ho).1).trans ho⟩⟩
end
theorem KeepU.of_tch {n₀ p b : Nat} {G : Nat → Prop} {w w' : World} {ev ev' : Value} {u : Value} (h : Tch (PS p b ev) w w') (he : EvTo w ev ev') (c1 : w.cell? ⟨p, 1, none⟩ = some u) (c3 : w.cell? ⟨p, 3, none⟩ = some ev) (c1' : w'.cell? ⟨p, 1, none⟩ = some u) (c3' : w'.cell? ⟨p, 3, none⟩ = some ev') : KeepU n₀ p b G w w' :=
  ⟨h.1, h.2.1, h.2.2.1, h.size, fun u' hu => by rw [c1] at hu; rw [← hu]; exact c1', fun ev9 he9 => by
    rw [c3] at he9
    injection he9 with he9
    subst he9
    exact ⟨ev', c3', he, fun i o ho _ hp _ => (h.2.2.2.2 i (Array.getElem?_eq_some_iff.1 ho).1 hp).trans ho⟩⟩
section
variable {B : Nat} {w w' : World} {p b : Nat} {most : Int} {evs : List Ev} {cl : List Ob}
def CrS (B : Nat) (w : World) (p b : Nat) (most : Int) (evs : List Ev) (cl : List Ob) (o : Ob) (e : Ending) (w' : World) : Prop :=
  (errO o.dflt ≠ 0 ∧ e = .returned (.tuple #[.int .u64 0, .int .i64 (errO o.dflt)]) ∧ Below w.heap.size w w') ∨
  (errO o.dflt = 0 ∧ (o.kind, o.name) ∈ keys cl ∧ e = .returned (.tuple #[.int .u64 0, .int .i64 8]) ∧ Below w.heap.size w w') ∨
  (errO o.dflt = 0 ∧ (o.kind, o.name) ∉ keys cl ∧ most ≤ cl.length ∧ e = .returned (.tuple #[.int .u64 0, .int .i64 10]) ∧ Below w.heap.size w w') ∨
  (errO o.dflt = 0 ∧ (o.kind, o.name) ∉ keys cl ∧ ¬ most ≤ cl.length ∧ e = .returned (.tuple #[.int .u64 ((evs.length + 1 : Nat) : Int), .int .i64 0]) ∧ S8 B w' p b most (evs ++ [⟨0, o.kind, o.name, evs.length + 1⟩]) (cl ++ [mkV o (evs.length + 1)]) ∧ Below B w w' ∧ ∀ n₀ G, KeepU n₀ p b G w w')
theorem err_mkV {o : Ob} {v : Nat} (h : errO o.dflt = 0) : errO (mkV o v) = 0 := by
  have e : errO (Ob.mk o.dflt.kind o.dflt.name (v : Int) o.dflt.w o.dflt.p o.dflt.n o.dflt.g o.dflt.h) = errO o.dflt := rfl
  rw [dflt_kind, dflt_name] at e
  exact e.trans h
theorem stands_put {F : Nat → Prop} {w5 : World} {n : Nat} {D : DataW Value} {o : Ob} {V : Nat → Value} {v Bn : Nat} (hD : Mp Tryz.prog w5 92 b n D) (hf : o.Fit) (hn5 : o.dflt.News w5 Bn V) (hn : o.dflt.News w' Bn V) (hF : ∀ i, F i → i < Bn ∨ w5.heap.size ≤ i) (hv : wfi .u64 (v : Int)) (L' : Array Value) (hL : L' = (o.dflt.reval V).cells.toArray) : StandsO (D.put (kOf o.kind o.name) (.held (.agg (putL L' v)))) F w' (mkV o v) := by
  have hs : (o.dflt.reval V).Safe F w' := Ob.News.safe2 hf.dflt hn5 hn hF
  refine ⟨Maps.has_put_same hD.isMap (keyLit_kOf _ _) _, Ob.mk o.kind o.name (v : Int) (o.dflt.reval V).w (o.dflt.reval V).p (o.dflt.reval V).n (o.dflt.reval V).g (o.dflt.reval V).h, ?_, safe_ver (o := o) hs (v : Int) hv (dflt_kind o) (dflt_name o), rfl⟩
  show valAt (D.put (kOf o.kind o.name) (.held (.agg (putL L' v)))) (kOf o.kind o.name) (.agg Z47) = _
  rw [valAt_put_same hD.isMap (keyLit_kOf _ _), hL, putL_dflt]
theorem s8_create (M : S8 B w p b most evs cl) (hlen : evs.length ≤ 500) (hB : B ≤ w.heap.size) (o : Ob) (ho : o.Ok w) :
    Calls Tryz.prog 23 #[.pointer (some ⟨p, 0, none⟩), .agg o.cells.toArray] w (CrS B w p b most evs cl o) := by
  obtain ⟨n, D, ev, st, R, hlow, hn, hcl, hgood⟩ := M
  have hk : KeyOk (o.kind, o.name) := Ob.Ok.keyOk ho
  obtain ⟨Lw, vw, hLw, hvw2, hval, hnone, hsome⟩ := R.look (o.kind, o.name) hk
  refine (screate_any st (by unfold maxLen; omega) (by omega) (by omega) o ho Lw hLw hval).mono fun e w' h => ?_
  unfold CrS
  by_cases hg : errO o.dflt = 0
  · rw [if_pos hg] at h
    obtain ⟨L', w5, hL', b5, hc⟩ := h
    unfold CreateSt at hc
    cases hf : findN o.kind o.name cl with
    | some i =>
      obtain ⟨hi, e1, e2⟩ := findN_some hf
      have hin : (o.kind, o.name) ∈ keys cl := by
        have := mem_keys (List.getElem_mem hi)
        rwa [e1, e2] at this
      rw [if_pos (hsome i hf).1] at hc
      exact .inr (.inl ⟨hg, hin, hc.1, below_tr b5 hc.2⟩)
    | none =>
      have hno := findN_none hf
      rw [hnone hf] at hc
      simp only [Bool.false_eq_true, if_false] at hc
      rw [R.size] at hc
      by_cases hfull : most ≤ (cl.length : Int)
      · rw [if_pos hfull] at hc
        exact .inr (.inr (.inl ⟨hg, hno, hfull, hc.1, below_tr b5 hc.2⟩))
      · rw [if_neg hfull] at hc
        obtain ⟨ev', he, st', ht, hE⟩ := hc
        rw [next_lt _ hlen] at st'
        obtain ⟨V, hLV, hnw⟩ := hL'
        have hT := tch_ps b5 ht
        have hE' := evTo_from b5 hE
        have hto := ps_to (p := p) (b := b) hE'
        have hD := (st.below b5).2.2.1
        have hpw := st.2.1.lt
        have hbw := st.2.2.1.lt
        have hnw' : o.dflt.News w' (w.heap.size + 1) V := News.t3 hnw (by omega) (by omega) (fun g hg => by have := (st.evGe hg).2; omega) ht
        have hFn : ∀ i, PS p b ev' i → i < w.heap.size + 1 ∨ w5.heap.size ≤ i := by
          rintro i (rfl | rfl | hi)
          · exact .inl (by omega)
          · exact .inl (by omega)
          · rcases hE with e | ⟨g, hg2, e⟩
            · have := (st.evGe (e ▸ hi)).2
              exact .inl (by omega)
            · rw [e] at hi
              injection hi with hi
              exact .inr (by omega)
        refine .inr (.inr (.inr ⟨hg, hno, hfull, he, ⟨n + 1, _, ev', by rw [List.length_append]; exact st', ?_, hlow, by rw [List.length_append]; simp; omega, by rw [List.length_append, List.length_append]; simp; omega, fun x hx => (List.mem_append.1 hx).elim (hgood x) fun h => by rw [List.mem_singleton.1 h]; exact err_mkV hg⟩, hT.low hB fun i hi => ps_low st hlow hi, fun n₀ G => KeepU.of_tch hT hE' st.cells.2.1 st.cells.2.2.2 st'.cells.2.1 st'.cells.2.2.2⟩))
        exact {
          size := by rw [Maps.size_put (st.2.2.1.tidy stK), hnone hf, List.length_append, R.size]; simp
          at1 := fun z hz => by
            rcases List.mem_append.1 hz with hz | hz
            · have hne : (z.kind, z.name) ≠ (o.kind, o.name) := fun e => hno (e ▸ mem_keys hz)
              have hk2 := kOf_ne (R.ok _ (mem_keys hz)) hk hne
              obtain ⟨h1, y, h2, h3, h4⟩ := R.at1 z hz
              exact ⟨(Maps.has_put_other hk2 _).trans h1, y, (valAt_put_other hk2 _ _).trans h2, h3.tch hT hto, h4⟩
            · rw [List.mem_singleton] at hz
              subst hz
              exact stands_put hD ho.fit hnw hnw' hFn (wf_now (by omega)) L' hLV
          at0 := fun k hk' h0 => by
            rw [keys_append, List.mem_append, not_or] at h0
            have hne : k ≠ (o.kind, o.name) := fun e => h0.2 (by rw [e]; simp [keys, mkV])
            rw [Maps.has_put_other (kOf_ne hk' hk hne)]
            exact R.at0 k hk' h0.1
          ok := fun k hk' => by
            rw [keys_append, List.mem_append] at hk'
            rcases hk' with h | h
            · exact R.ok k h
            · simp only [keys, List.map_cons, List.map_nil, List.mem_cons, List.not_mem_nil, or_false] at h
              rw [h]; exact hk
          uniq := by
            rw [keys_append]
            refine List.nodup_append.2 ⟨R.uniq, by simp [keys], fun a ha c hc e => hno ?_⟩
            simp only [keys, List.map_cons, List.map_nil, List.mem_cons, List.not_mem_nil, or_false] at hc
            have h9 : a = (o.kind, o.name) := e.trans hc
            rw [← h9]
            exact ha }
  · rw [if_neg hg] at h
    exact .inl ⟨hg, h⟩
theorem keys_set {i : Nat} {x : Ob} (hi : i < cl.length) (hx : (x.kind, x.name) = (cl[i].kind, cl[i].name)) : keys (cl.set i x) = keys cl := by
  unfold keys
  rw [List.map_set, hx]
  have : (cl[i].kind, cl[i].name) = (cl.map fun x => (x.kind, x.name))[i]'(by simpa using hi) := by simp
  rw [this, List.set_getElem_self]
def GetS (w : World) (cl : List Ob) (kind : Int) (name : ByteArray) (e : Ending) (w' : World) : Prop :=
  ∃ y : Ob, e = .returned (.tuple #[.agg y.cells.toArray, .bool (findN kind name cl).isSome]) ∧ y.Safe (fun j => j < w.heap.size) w' ∧ Below w.heap.size w w' ∧
    (findN kind name cl = none → nf y = nf Ob.zero) ∧ ∀ i, findN kind name cl = some i → ∃ hi : i < cl.length, nf y = nf cl[i]
theorem s8_get (M : S8 B w p b most evs cl) (kind : Int) (name : ByteArray) (hk : KeyOk (kind, name)) :
    Calls Tryz.prog 10 #[.pointer (some ⟨p, 0, none⟩), .int .i64 kind, .string name] w (GetS w cl kind name) := by
  obtain ⟨n, D, ev, st, R, hlow, hn, hcl, hgood⟩ := M
  cases hf : findN kind name cl with
  | none =>
    have h0 := R.at0 (kind, name) hk (findN_none hf)
    refine (sget_any w p b n D most _ ev evs st kind name hk.1 hk.2 Ob.zero (zero_ok w) (by rw [valAt_not h0, zero_cells])).mono ?_
    rintro e w' ⟨V, rfl, hnw, hb⟩
    exact ⟨Ob.zero.reval V, by rw [h0, hf]; rfl, Ob.News.safe (zero_ok w).fit hnw fun _ h => h, hb, fun _ => rfl, fun i e => (by rw [hf] at e; cases e)⟩
  | some i =>
    obtain ⟨hi, hki, hni⟩ := findN_some hf
    obtain ⟨h1, y, h2, h3, h4⟩ := R.at1 _ (List.getElem_mem hi)
    rw [hki, hni] at h1 h2
    refine (sget_any w p b n D most _ ev evs st kind name hk.1 hk.2 y h3.ok h2).mono ?_
    rintro e w' ⟨V, rfl, hnw, hb⟩
    refine ⟨y.reval V, by rw [h1, hf]; rfl, Ob.News.safe h3.ok.fit hnw fun _ h => h, hb, fun e => (by rw [hf] at e; cases e), fun j e => ?_⟩
    rw [hf] at e
    injection e with e
    subst e
    exact ⟨hi, by rw [nf_reval]; exact h4⟩
theorem s8_new (most : Int) (w : World) (h1 : 1 ≤ most) (h2 : most ≤ 512) : Calls Tryz.prog 21 #[.int .i64 most] w fun e w' => ∃ p b, e = .returned (.tuple #[.pointer (some ⟨p, 0, none⟩), .int .i64 0]) ∧ S8 w.heap.size w' p b most [] [] ∧ Below w.heap.size w w' := by
  refine (snew_any most w h1 h2).mono ?_
  rintro e w' ⟨p, b, rfl, hb, st, hB⟩
  exact ⟨p, b, rfl, ⟨0, .map [], .slice none 0 0, st, ⟨rfl, fun x hx => (by cases hx), fun k _ _ => rfl, fun k hk => (by cases hk), List.nodup_nil⟩, hb, Nat.le_refl _, Nat.le_refl _, fun x hx => (by cases hx)⟩, hB⟩
theorem s8_len (M : S8 B w p b most evs cl) : Calls Tryz.prog 37 #[.pointer (some ⟨p, 0, none⟩)] w fun e w' => e = .returned (.int .i64 cl.length) ∧ w' = w := by
  obtain ⟨n, D, ev, st, R, hlow, hn, hcl, hgood⟩ := M
  refine (slen w p b n D most _ ev evs st).mono ?_
  rintro e w' ⟨rfl, rfl⟩
  exact ⟨by rw [R.size], rfl⟩
theorem s8_now (M : S8 B w p b most evs cl) : Calls Tryz.prog 38 #[.pointer (some ⟨p, 0, none⟩)] w fun e w' => e = .returned (.int .u64 evs.length) ∧ w' = w := by
  obtain ⟨n, D, ev, st, R, hlow, hn, hcl, hgood⟩ := M
  refine (snow w p b n D most _ ev evs st).mono ?_
  rintro e w' ⟨rfl, rfl⟩
  exact ⟨rfl, rfl⟩
end
end Go.Proofs.YtcbnmoghjhljbaaGreat
end
section
namespace Go.Proofs.YtcbnmoghjhljbaaGreat
open Go.RowKit Go.Proofs.Mem
open Go.Sort
set_option linter.unusedVariables false
set_option linter.unusedSimpArgs false
end Go.Proofs.YtcbnmoghjhljbaaGreat
end
section
namespace Go.Proofs.YtcbnmoghjhljbaaGreat
open Go.RowKit Go.Proofs.Mem
set_option linter.unusedVariables false
set_option linter.unusedSimpArgs false
end Go.Proofs.YtcbnmoghjhljbaaGreat
end
section
namespace Go.Proofs.YtcbnmoghjhljbaaGreat
open Go.RowKit Go.Proofs.Mem
set_option linter.unusedVariables false
set_option linter.unusedSimpArgs false
section
variable {cl : List Ob} {now : Int} {v0 k : Nat}
end
end Go.Proofs.YtcbnmoghjhljbaaGreat
end
section
namespace Go.Proofs.YtcbnmoghjhljbaaGreat
open Go.RowKit Go.Proofs.Mem
set_option linter.unusedVariables false
set_option linter.unusedSimpArgs false
theorem errO_nf {x y : Ob} (h : nf x = nf y) : errO x = errO y := by
  have e : ∀ o : Ob, errO (nf o) = errO o := fun o => errO_reval o _
  rw [← e x, ← e y, h]
theorem dflt_pod {o : Ob} (h : o.kind = 1) : o.dflt = o := by
  unfold Ob.dflt
  simp [h]
theorem nf_keys {cl cl' : List Ob} (h : cl'.map nf = cl.map nf) : keys cl' = keys cl := by
  have e : ∀ l : List Ob, keys l = (l.map nf).map fun x => (x.kind, x.name) := fun l => by
    unfold keys
    rw [List.map_map]
    rfl
  rw [e, e, h]
theorem nf_at {cl cl' : List Ob} (h : cl'.map nf = cl.map nf) {x : Ob} (hx : x ∈ cl') : ∃ z ∈ cl, nf x = nf z := by
  have h1 : nf x ∈ cl.map nf := by rw [← h]; exact List.mem_map.2 ⟨x, hx, rfl⟩
  obtain ⟨z, hz, e⟩ := List.mem_map.1 h1
  exact ⟨z, hz, e.symm⟩
theorem nf_key {x z : Ob} (h : nf x = nf z) : x.kind = z.kind ∧ x.name = z.name := ⟨(congrArg Ob.kind h : (nf x).kind = (nf z).kind), (congrArg Ob.name h : (nf x).name = (nf z).name)⟩
theorem SRel.congr {D : DataW Value} {F : Nat → Prop} {w : World} {cl cl' : List Ob} (R : SRel D F w cl) (h : cl'.map nf = cl.map nf) : SRel D F w cl' where
  size := by
    have := congrArg List.length h
    simp only [List.length_map] at this
    rw [this]
    exact R.size
  at1 := fun x hx => by
    obtain ⟨z, hz, e⟩ := nf_at h hx
    obtain ⟨e1, e2⟩ := nf_key e
    obtain ⟨h1, y, h2, h3, h4⟩ := R.at1 z hz
    unfold StandsO
    rw [e1, e2]
    exact ⟨h1, y, h2, h3, h4.trans e.symm⟩
  at0 := by rw [nf_keys h]; exact R.at0
  ok := by rw [nf_keys h]; exact R.ok
  uniq := by rw [nf_keys h]; exact R.uniq
theorem pod_may {o : Ob} (hk : o.kind = 1) (h : errO o = 0) : nmB o.name = true ∧ mayP (emptyB o) o.p = true := by
  unfold errO at h
  rw [if_pos (by omega)] at h
  unfold mayO at h
  rw [if_neg (by omega), if_pos hk] at h
  unfold errN at h
  cases h1 : nmB o.name <;> cases h2 : mayP (emptyB o) o.p <;> simp [h1, h2] at h ⊢
theorem pod_err {o : Ob} (hk : o.kind = 1) (h1 : nmB o.name = true) (h2 : mayP (emptyB o) o.p = true) : errO o = 0 := by
  unfold errO
  rw [if_pos (by omega)]
  unfold mayO
  rw [if_neg (by omega), if_pos hk]
  unfold errN
  rw [h1, h2]
  rfl
end Go.Proofs.YtcbnmoghjhljbaaGreat
end
section
namespace Go.Proofs.YtcbnmoghjhljbaaGreat
open Go.RowKit Go.Proofs.Mem
set_option linter.unusedVariables false
set_option linter.unusedSimpArgs false
theorem own_kept {A C : World} {base s n : Nat} {e : TypeId} {v : Value} {xs : List Value} {row : Option Nat} (h : A.ownsRow base e s v n xs) (hg : A.grownBy C row) (hr : ∀ r, row = some r → ∃ o : Obj, A.heap[r]? = some o ∧ o.isCells = false) : C.ownsRow base e s v n xs := by
  refine own_block h fun g hv => hg.block g (h.lt g hv).2 fun e => ?_
  obtain ⟨o, h1, h2⟩ := hr g e.symm
  obtain ⟨_, h3⟩ := h
  rcases h3 with ⟨h3, _⟩ | ⟨g', cap, cur, hv', _, hh, _⟩
  · rw [h3] at hv
    cases hv
  · rw [hv'] at hv
    have hgg : g' = g := Option.some.inj hv
    subst hgg
    rw [h1] at hh
    injection hh with hh
    rw [hh] at h2
    cases h2
section
variable {F : Fence} {n : Nat} {P : Program} {ops : Array Oper} {rest : List Oper} {o : Oper} {a : Act} {w w' : World} {Q : Exit → Act → World → Prop} {t : TypeId} {cs : Array Value} {g i : Nat} {v : Value}
theorem run_load_at {ev : Operand → Value} {cs : List Value} (hr : w.rangeAt g i cs) (ty : TypeId) (x : Operand) (ho : o.op = .load ty x) (hx : ev x = .pointer (some ⟨g, i, none⟩)) (d : TypeDesc) (hu : P.underlying ty = some d) (hd : d.isRow = true) (hi : (P.info? ty).map (·.size) = some cs.length) :
    (execOp ev o).run P w = .ok (.value (.agg cs.toArray)) w := by
  have hr := run_loadAt_mid (P := P) w g i ty cs d hr hu hd hi
  unfold execOp
  simp only [ho, hx, Sem.run_bind, hr, Result.andThen_ok, Sem.run_pure]
end
theorem findN_of {l : List Ob} (hu : (keys l).Nodup) {i : Nat} (hi : i < l.length) : findN l[i].kind l[i].name l = some i := by
  unfold findN
  rw [List.findIdx?_eq_some_iff_getElem]
  refine ⟨hi, isOb_iff.2 rfl, fun j hj => ?_⟩
  cases hb : isOb l[i].kind l[i].name l[j]
  · simp
  · have := key_inj hu (by omega) hi (isOb_iff.1 hb)
    omega
end Go.Proofs.YtcbnmoghjhljbaaGreat
end
section
namespace Go.Proofs.YtcbnmoghjhljbaaGreat
open Go.RowKit Go.Proofs.Mem
set_option linter.unusedVariables false
set_option linter.unusedSimpArgs false
attribute [local go_sem] Oper.semAt_some
theorem own_cells {W : World} {base s n g : Nat} {e : TypeId} {v : Value} {xs : List Value} (h : W.ownsRow base e s v n xs) (hg : v.ownBlock = some g) : ∃ cur, W.heap[g]? = some (.cells cur e (0, 0)) := by
  obtain ⟨_, h3⟩ := h
  rcases h3 with ⟨h3, _⟩ | ⟨g', cap, cur, hv', _, hh, _⟩
  · rw [h3] at hg
    cases hg
  · rw [hv'] at hg
    have hgg : g' = g := Option.some.inj hg
    subst hgg
    exact ⟨cur, hh⟩
end Go.Proofs.YtcbnmoghjhljbaaGreat
end
section
namespace Go.Proofs.YtcbnmoghjhljbaaGreat
open Go.RowKit Go.Proofs.Mem
set_option linter.unusedVariables false
set_option linter.unusedSimpArgs false
end Go.Proofs.YtcbnmoghjhljbaaGreat
end
section
namespace Go.Proofs.YtcbnmoghjhljbaaGreat
open Go.RowKit Go.Proofs.Mem
set_option linter.unusedVariables false
set_option linter.unusedSimpArgs false
section
variable {cl : List Ob} {now : Int} {v0 : Nat}
end
end Go.Proofs.YtcbnmoghjhljbaaGreat
end
section
namespace Go.Proofs.YtcbnmoghjhljbaaGreat
open Go.RowKit Go.Proofs.Mem
set_option linter.unusedVariables false
set_option linter.unusedSimpArgs false
theorem safe_both {x : Ob} {F F' : Nat → Prop} {w : World} (h : x.Safe F w) (h' : x.Safe F' w) : x.Safe (fun j => F j ∨ F' j) w :=
  ⟨h.1, fun k hk v e ad n c h1 h2 h3 => h3.elim (h.2 k hk v e ad n c h1 h2) (h'.2 k hk v e ad n c h1 h2)⟩
theorem KeepU.tch {n₀ p b : Nat} {W W' : World} {ev : Value} (h : KeepU n₀ p b (fun _ => False) W W') (hn : W.heap.size ≤ n₀) (he : W.cell? ⟨p, 3, none⟩ = some ev) : Tch (PS p b ev) W W' :=
  ⟨h.1, h.2.1, h.2.2.1, h.2.2.2.1, fun i hi hp => (h.frame he (Array.getElem?_eq_getElem hi) (.inl (by omega)) hp (fun h => h)).trans (Array.getElem?_eq_getElem hi).symm⟩
end Go.Proofs.YtcbnmoghjhljbaaGreat
end
section
namespace Go.Proofs.YtcbnmoghjhljbaaGreat
open Go.RowKit Go.Proofs.Mem
set_option linter.unusedVariables false
set_option linter.unusedSimpArgs false
def StkOut (w : World) (e : Ending) (w' : World) : Prop :=
  (e = .returned (.pointer none) ∨ ∃ p b evs cl, e = .returned (.pointer (some ⟨p, 0, none⟩)) ∧ S8 w.heap.size w' p b 200 evs cl ∧ evs.length ≤ 60) ∧ Below w.heap.size w w'
theorem CrS.out {B : Nat} {w w' : World} {p b : Nat} {most : Int} {evs : List Ev} {cl : List Ob} {o : Ob} {e : Ending} (M : S8 B w p b most evs cl) (hB : B ≤ w.heap.size) (h : CrS B w p b most evs cl o e w') : ∃ v evs' cl', e = .returned v ∧ S8 B w' p b most evs' cl' ∧ evs'.length ≤ evs.length + 1 ∧ Below B w w' := by
  rcases h with ⟨_, h1, h2⟩ | ⟨_, _, h1, h2⟩ | ⟨_, _, _, h1, h2⟩ | ⟨_, _, _, h1, h2, h3, _⟩
  · exact ⟨_, evs, cl, h1, M.below h2, by omega, h2.mono hB⟩
  · exact ⟨_, evs, cl, h1, M.below h2, by omega, h2.mono hB⟩
  · exact ⟨_, evs, cl, h1, M.below h2, by omega, h2.mono hB⟩
  · exact ⟨_, _, _, h1, h2, by simp, h3⟩
set_option maxHeartbeats 4000000 in
set_option maxRecDepth 100000 in
theorem stocked_any (w : World) (A : Option Addr) (c : Nat) (l : List Ob) (hA : Sl w 47 (.slice A l.length c) l.length (l.flatMap Ob.cells)) (hok : ∀ x ∈ l, x.Ok w) (hlen : l.length ≤ maxLen) :
    Calls Tryz.prog 5 #[.slice A l.length c] w (StkOut w) := by
  have HL := Lib.hid (And.intro hA hok)
  have hml : maxLen = 9223372036854775807 := rfl
  rw [hml] at hlen
  have hT : Tryz.prog.underlying 22 = some (.slice 56) := Tryz.underlying22
  have HU := Lib.hid (Tryz.underlying56)
  clear hA hok hml
  go_enter Tryz.func5, Tryz.ntmps5
  by_cases h60 : 60 < l.length
  · have g1 : (60 : Int) < (l.length : Int) := by omega
    go_wp2_with fail
    go_ret
    exact ⟨.inl rfl, Below.refl _ _⟩
  have g1 : ¬ (60 : Int) < (l.length : Int) := by omega
  go_wp2_with fail
  refine (s8_new 200 w (by omega) (by omega)).mono ?_
  rintro e w1 ⟨p, b, rfl, hM, b1⟩
  have HM0 := Lib.hid hM
  have HB0 := Lib.hid b1
  clear hM b1
  go_wp2_with fail
  go_loopw [16] (fun iv wr => ∃ (k : Nat) (evs : List Ev) (cl : List Ob), k ≤ l.length ∧ iv = .int .i64 k ∧ Hid (S8 w.heap.size wr p b 200 evs cl) ∧ evs.length ≤ k ∧ Hid (Below w.heap.size w wr)) (fun iv wr => l.length - (intOf iv).toNat)
  case atStart => exact ⟨0, [], [], Nat.zero_le _, rfl, HM0, Nat.le_refl _, HB0⟩
  case round =>
    clear HM0 HB0
    obtain ⟨k, evs, cl, hk, rfl, hM, hme, hB⟩ := hrel
    by_cases hlt : k < l.length
    · obtain ⟨b1, o1, rfl, hb1, hadd1, hcell⟩ := Sl.row' (s := 47) (f := Ob.cells) ob_len (by omega) (HL.out.1.below hB.out) k hlt
      have hr : wr.rangeAt b1 (o1 + k * 47) (l[k]).cells := fun j u hj => hcell j u hj
      have hox := (HL.out.2 _ (List.getElem_mem hlt)).below hB.out
      obtain ⟨x, hx⟩ : ∃ x : Ob, x = l[k] := ⟨_, rfl⟩
      rw [← hx] at hr hox
      have hiL := cells_is _ hox
      obtain ⟨L, hL⟩ : ∃ L : Array Value, L = x.cells.toArray := ⟨_, rfl⟩
      rw [← hL] at hiL
      have hlx : x.cells = L.toList := by rw [hL]
      rw [hlx] at hr
      have hzz : Z47.size = L.size := hiL.1.symm
      have kz := Bk.new wr 56 Z47
      have kS := setCells_whole kz hzz
      have bS := below_setCells (g := wr.heap.size) L.toList 0 (below_al wr (.cells Z47 56)) (Nat.le_refl _)
      obtain ⟨W2, hW2⟩ : ∃ W2, W2 = (wr.alloc (.cells Z47 56)).setCells wr.heap.size 0 L.toList := ⟨_, rfl⟩
      rw [← hW2] at kS bS
      obtain ⟨r, hrr⟩ : ∃ r, r = wr.heap.size := ⟨_, rfl⟩
      have hlen' : (L.toList.toArray) = L := by simp
      have HR := Lib.hid (And.intro hr (And.intro kz (And.intro hW2.symm (And.intro hiL (And.intro hzz (And.intro bS (And.intro hlen' (And.intro (hox.below bS) kS))))))))
      have HXL := Lib.hid hL
      clear hr hiL hx hL hlx hzz kz kS bS hW2 hcell hlen' hox hb1 hadd1 hrr
      go_wp2_with (first | (refine wpl_loadat HR.out.1 rfl 56 (.tmp 18) rfl rfl _ HU.out rfl (by simpa using info47 HR.out.2.2.2.1) ?_; rw [HR.out.2.2.2.2.2.2.1]) | (refine wpl_allocg rfl (run_alloc47 rfl _) ?_) | (refine wpl_storeg HR.out.2.1 HR.out.2.2.2.2.1 rfl rfl 56 (.tmp 6) (.tmp 19) rfl rfl rfl (info47 HR.out.2.2.2.1) HR.out.2.2.2.1.2 ?_; rw [HR.out.2.2.1]) | (refine wpl_loadg HR.out.2.2.2.2.2.2.2.2 rfl 56 (.tmp 6) rfl rfl _ HU.out rfl (info47 HR.out.2.2.2.1) ?_))
      rw [HXL.out]
      refine (few_any x W2 HR.out.2.2.2.2.2.2.2.1).mono ?_
      rintro e w3 ⟨⟨bb, rfl⟩, b3⟩
      have kS3 := HR.out.2.2.2.2.2.2.2.2.below' b3
      have d0' : w3.cell? ⟨wr.heap.size, 1, none⟩ = some (.string x.name) := by rw [kS3.cell, HXL.out]; rfl
      have b03 := below_tr HR.out.2.2.2.2.2.1 b3
      have hB3 := below_tr hB.out b03
      have H3 := Lib.hid (And.intro kS3 (And.intro b03 (And.intro hB3 (HR.out.2.2.2.2.2.2.2.1.below b3))))
      clear kS3 b03 hB3 b3
      cases bb with
      | false =>
        go_wp2_with fail
        go_ret
        exact ⟨.inl rfl, H3.out.2.2.1⟩
      | true =>
        by_cases hn : 60 < x.name.size
        · have hn2 : (60 : Int) < (x.name.size : Int) := by omega
          have hn3 : decide ((60 : Int) < (x.name.size : Int)) = true := decide_eq_true hn2
          go_wp2_with fail
          go_ret
          exact ⟨.inl rfl, H3.out.2.2.1⟩
        · have hn2 : ¬ (60 : Int) < (x.name.size : Int) := by omega
          have hn3 : decide ((60 : Int) < (x.name.size : Int)) = false := decide_eq_false hn2
          go_wp2_with (refine wpl_loadg H3.out.1 rfl 56 (.tmp 6) rfl rfl _ HU.out rfl (info47 HR.out.2.2.2.1) ?_)
          rw [HXL.out]
          have hM3 := hM.out.below H3.out.2.1
          refine (s8_create hM3 (by omega) H3.out.2.2.1.size x H3.out.2.2.2).mono ?_
          intro e w4 hc
          obtain ⟨v, evs', cl', rfl, hM4, hl4, hB4⟩ := hc.out hM3 H3.out.2.2.1.size
          have HM4 := Lib.hid hM4
          have HB4 := Lib.hid (H3.out.2.2.1.trans hB4)
          clear hM3 hM4 hB4 hc
          go_wp2_with fail
          exact ⟨⟨k + 1, evs', cl', by omega, by go_num, HM4, by omega, HB4⟩, by simp [intOf]; omega⟩
    · rename World => wA
      have hke : k = l.length := by omega
      subst hke
      go_wp2_with fail
      go_ret
      exact ⟨.inr ⟨p, b, evs, cl, rfl, hM.out, by omega⟩, hB.out⟩
end Go.Proofs.YtcbnmoghjhljbaaGreat
end
