/-
  The program's objects as plain data: each struct of package api as a Lean structure, a slice as its value with the list that it reads as; how they lie in cells; what reads so in a world.
-/
import Derived.Test.YthdjfcfbmmmmcaaOpen
import Derived.Test.YthdjfcfbmmmmcaaRow
namespace Go.Proofs.Mem
open Go.RowKit
set_option linter.unusedVariables false
/-- A slice: its value, and the list that it reads as. -/
structure Row (α : Type) where
  v : Value
  l : List α
def Row.Ok {α : Type} (r : Row α) (w : World) (s bytes : Nat) (f : α → List Value) (p : α → Prop) : Prop := Sl w s r.v r.l.length (r.l.flatMap f) ∧ r.l.length * bytes ≤ reachBytes ∧ ∀ x ∈ r.l, p x
theorem Row.Ok.below {α : Type} {r : Row α} {w w' : World} {s bytes : Nat} {f : α → List Value} {p : α → Prop} (h : r.Ok w s bytes f p) (hb : Below w.heap.size w w') : r.Ok w' s bytes f p := ⟨h.1.below hb, h.2⟩
/-- A row of pieces, each of which reads as some x. -/
theorem rows_of {α : Type} {s : Nat} (f : α → List Value) (p : α → Prop) : ∀ (m : Nat) (xs : List Value), xs.length = m * s → (∀ i, i < m → ∃ x, (xs.drop (i * s)).take s = f x ∧ p x) → ∃ l : List α, l.length = m ∧ xs = l.flatMap f ∧ ∀ x ∈ l, p x
  | 0, xs, hl, _ => ⟨[], rfl, by simpa using hl, by simp⟩
  | m + 1, xs, hl, h => by
    have hs : s ≤ xs.length := by rw [hl, Nat.succ_mul]; omega
    obtain ⟨x, hx, px⟩ := h 0 (by omega)
    obtain ⟨l, h1, h2, h3⟩ := rows_of (s := s) f p m (xs.drop s) (by rw [List.length_drop, hl, Nat.succ_mul]; omega) (fun i hi => by
      obtain ⟨y, hy, py⟩ := h (i + 1) (by omega)
      exact ⟨y, by rw [List.drop_drop, Nat.add_comm s, ← Nat.succ_mul]; exact hy, py⟩)
    refine ⟨x :: l, by simp [h1], ?_, ?_⟩
    · rw [List.flatMap_cons, ← h2, ← hx, Nat.zero_mul, List.drop_zero, List.take_append_drop]
    · intro y hy
      rcases List.mem_cons.1 hy with rfl | hy
      · exact px
      · exact h3 y hy
/-- A slice of structs, opened. -/
theorem row_of {α : Type} {P : Program} {w : World} {n : Nat} {t e : TypeId} {cs : List Value} {s bytes : Nat} (f : α → List Value) (p : α → Prop) (ht : P.underlying t = some (.slice e)) (hs : P.cellsOf e = s) (hb : P.bytesOf e = bytes) (h0 : 0 < s) (h : Ok P w (n + 1) t cs)
    (hel : ∀ c, Ok P w n e c → ∃ x, c = f x ∧ p x) : ∃ r : Row α, cs = [r.v] ∧ r.Ok w s bytes f p := by
  subst hs; subst hb
  obtain ⟨v, m, xs, e1, hS, hm, hx⟩ := ok_sliceR ht h h0
  obtain ⟨_, _, _, _, _, hl, _⟩ := id hS
  obtain ⟨l, h1, h2, h3⟩ := rows_of f p m xs hl (fun i hi => hel _ (hx i hi))
  subst h1; subst h2
  exact ⟨⟨v, l⟩, e1, hS, hm.2, h3⟩
def wfi (k : IntKind) (z : Int) : Prop := (Lit.int k z).wf = true
def wfs (s : ByteArray) : Prop := s.size ≤ reachBytes
structure Lab where
  key : ByteArray
  value : ByteArray
def Lab.cells (x : Lab) : List Value := [.string x.key, .string x.value]
def Lab.Wf (x : Lab) : Prop := wfs x.key ∧ wfs x.value
structure Req where
  key : ByteArray
  value : ByteArray
  op : Int
def Req.cells (x : Req) : List Value := [.string x.key, .string x.value, .int .i64 x.op]
def Req.Wf (x : Req) : Prop := wfs x.key ∧ wfs x.value ∧ wfi .i64 x.op
structure Met where
  kind : Int
  name : ByteArray
  target : Int
def Met.cells (x : Met) : List Value := [.int .i64 x.kind, .string x.name, .int .i64 x.target]
def Met.Wf (x : Met) : Prop := wfi .i64 x.kind ∧ wfs x.name ∧ wfi .i64 x.target
/-- A policy. -/
structure Pol where
  pct : Bool
  value : Int
  period : Int
def Pol.cells (p : Pol) : List Value := [.bool p.pct, .int .i64 p.value, .int .i64 p.period]
def Pol.Wf (p : Pol) : Prop := wfi .i64 p.value ∧ wfi .i64 p.period
/-- What was done: at a tick, from so many to so many. -/
structure Done where
  at' : Int
  from' : Int
  to' : Int
def Done.cells (x : Done) : List Value := [.int .i64 x.at', .int .i64 x.from', .int .i64 x.to']
def Done.Wf (x : Done) : Prop := wfi .i64 x.at' ∧ wfi .i64 x.from' ∧ wfi .i64 x.to'
structure Wl where
  replicas : Int
  cpu : Int
  mem : Int
  labels : Row Lab
  select : Row Req
  tolerate : Row Lab
  warm : Int
def Wl.cells (x : Wl) : List Value := [.int .i64 x.replicas, .int .i64 x.cpu, .int .i64 x.mem, x.labels.v, x.select.v, x.tolerate.v, .int .i64 x.warm]
structure Pd where
  owner : ByteArray
  node : ByteArray
  phase : Int
  since : Int
  cpu : Int
  mem : Int
  labels : Row Lab
  select : Row Req
  tolerate : Row Lab
  warm : Int
def Pd.cells (x : Pd) : List Value := [.string x.owner, .string x.node, .int .i64 x.phase, .int .i64 x.since, .int .i64 x.cpu, .int .i64 x.mem, x.labels.v, x.select.v, x.tolerate.v, .int .i64 x.warm]
structure Nd where
  group : ByteArray
  cpu : Int
  mem : Int
  labels : Row Lab
  taints : Row Lab
  since : Int
  closed : Bool
def Nd.cells (x : Nd) : List Value := [.string x.group, .int .i64 x.cpu, .int .i64 x.mem, x.labels.v, x.taints.v, .int .i64 x.since, .bool x.closed]
structure Gr where
  min : Int
  max : Int
  target : Int
  cpu : Int
  mem : Int
  labels : Row Lab
  taints : Row Lab
  priority : Int
def Gr.cells (x : Gr) : List Value := [.int .i64 x.min, .int .i64 x.max, .int .i64 x.target, .int .i64 x.cpu, .int .i64 x.mem, x.labels.v, x.taints.v, .int .i64 x.priority]
structure Bh where
  window : Int
  pick : Int
  policies : Row Pol
def Bh.cells (x : Bh) : List Value := [.int .i64 x.window, .int .i64 x.pick, x.policies.v]
structure Hp where
  target : ByteArray
  min : Int
  max : Int
  metrics : Row Met
  tolerance : Int
  up : Bh
  down : Bh
  past : Row Done
def Hp.cells (x : Hp) : List Value := [.string x.target, .int .i64 x.min, .int .i64 x.max, x.metrics.v, .int .i64 x.tolerance, .int .i64 x.up.window, .int .i64 x.up.pick, x.up.policies.v, .int .i64 x.down.window, .int .i64 x.down.pick, x.down.policies.v, x.past.v]
structure Ob where
  kind : Int
  name : ByteArray
  version : Int
  w : Wl
  p : Pd
  n : Nd
  g : Gr
  h : Hp
def Ob.cells (o : Ob) : List Value := [.int .i64 o.kind, .string o.name, .int .u64 o.version] ++ o.w.cells ++ o.p.cells ++ o.n.cells ++ o.g.cells ++ o.h.cells
section
variable (W : World)
abbrev LabsOk (r : Row Lab) : Prop := r.Ok W 2 32 Lab.cells Lab.Wf
abbrev ReqsOk (r : Row Req) : Prop := r.Ok W 3 40 Req.cells Req.Wf
abbrev MetsOk (r : Row Met) : Prop := r.Ok W 3 32 Met.cells Met.Wf
abbrev PolsOk (r : Row Pol) : Prop := r.Ok W 3 24 Pol.cells Pol.Wf
abbrev DonesOk (r : Row Done) : Prop := r.Ok W 3 24 Done.cells Done.Wf
structure Wl.Ok (x : Wl) : Prop where
  replicas : wfi .i64 x.replicas
  cpu : wfi .i64 x.cpu
  mem : wfi .i64 x.mem
  labels : LabsOk W x.labels
  select : ReqsOk W x.select
  tolerate : LabsOk W x.tolerate
  warm : wfi .i64 x.warm
structure Pd.Ok (x : Pd) : Prop where
  owner : wfs x.owner
  node : wfs x.node
  phase : wfi .i64 x.phase
  since : wfi .i64 x.since
  cpu : wfi .i64 x.cpu
  mem : wfi .i64 x.mem
  labels : LabsOk W x.labels
  select : ReqsOk W x.select
  tolerate : LabsOk W x.tolerate
  warm : wfi .i64 x.warm
structure Nd.Ok (x : Nd) : Prop where
  group : wfs x.group
  cpu : wfi .i64 x.cpu
  mem : wfi .i64 x.mem
  labels : LabsOk W x.labels
  taints : LabsOk W x.taints
  since : wfi .i64 x.since
structure Gr.Ok (x : Gr) : Prop where
  min : wfi .i64 x.min
  max : wfi .i64 x.max
  target : wfi .i64 x.target
  cpu : wfi .i64 x.cpu
  mem : wfi .i64 x.mem
  labels : LabsOk W x.labels
  taints : LabsOk W x.taints
  priority : wfi .i64 x.priority
structure Bh.Ok (x : Bh) : Prop where
  window : wfi .i64 x.window
  pick : wfi .i64 x.pick
  policies : PolsOk W x.policies
structure Hp.Ok (x : Hp) : Prop where
  target : wfs x.target
  min : wfi .i64 x.min
  max : wfi .i64 x.max
  metrics : MetsOk W x.metrics
  tolerance : wfi .i64 x.tolerance
  up : x.up.Ok W
  down : x.down.Ok W
  past : DonesOk W x.past
structure Ob.Ok (o : Ob) : Prop where
  kind : wfi .i64 o.kind
  name : wfs o.name
  version : wfi .u64 o.version
  w : o.w.Ok W
  p : o.p.Ok W
  n : o.n.Ok W
  g : o.g.Ok W
  h : o.h.Ok W
end
section
variable {W W' : World}
theorem Wl.Ok.below {x : Wl} (h : x.Ok W) (hb : Below W.heap.size W W') : x.Ok W' := ⟨h.replicas, h.cpu, h.mem, h.labels.below hb, h.select.below hb, h.tolerate.below hb, h.warm⟩
theorem Pd.Ok.below {x : Pd} (h : x.Ok W) (hb : Below W.heap.size W W') : x.Ok W' := ⟨h.owner, h.node, h.phase, h.since, h.cpu, h.mem, h.labels.below hb, h.select.below hb, h.tolerate.below hb, h.warm⟩
theorem Nd.Ok.below {x : Nd} (h : x.Ok W) (hb : Below W.heap.size W W') : x.Ok W' := ⟨h.group, h.cpu, h.mem, h.labels.below hb, h.taints.below hb, h.since⟩
theorem Gr.Ok.below {x : Gr} (h : x.Ok W) (hb : Below W.heap.size W W') : x.Ok W' := ⟨h.min, h.max, h.target, h.cpu, h.mem, h.labels.below hb, h.taints.below hb, h.priority⟩
theorem Bh.Ok.below {x : Bh} (h : x.Ok W) (hb : Below W.heap.size W W') : x.Ok W' := ⟨h.window, h.pick, h.policies.below hb⟩
theorem Hp.Ok.below {x : Hp} (h : x.Ok W) (hb : Below W.heap.size W W') : x.Ok W' := ⟨h.target, h.min, h.max, h.metrics.below hb, h.tolerance, h.up.below hb, h.down.below hb, h.past.below hb⟩
theorem Ob.Ok.below {o : Ob} (h : o.Ok W) (hb : Below W.heap.size W W') : o.Ok W' := ⟨h.kind, h.name, h.version, h.w.below hb, h.p.below hb, h.n.below hb, h.g.below hb, h.h.below hb⟩
end
/-- A row of nothing. -/
def Row.nil {α : Type} : Row α := ⟨.slice none 0 0, []⟩
theorem Row.nil_ok {α : Type} {w : World} {s bytes : Nat} {f : α → List Value} {p : α → Prop} : (Row.nil : Row α).Ok w s bytes f p := ⟨Sl.nil w s, by simp [Row.nil], by simp [Row.nil]⟩
def Wl.zero : Wl := ⟨0, 0, 0, .nil, .nil, .nil, 0⟩
def Pd.zero : Pd := ⟨⟨#[]⟩, ⟨#[]⟩, 0, 0, 0, 0, .nil, .nil, .nil, 0⟩
def Nd.zero : Nd := ⟨⟨#[]⟩, 0, 0, .nil, .nil, 0, false⟩
def Gr.zero : Gr := ⟨0, 0, 0, 0, 0, .nil, .nil, 0⟩
def Bh.zero : Bh := ⟨0, 0, .nil⟩
def Hp.zero : Hp := ⟨⟨#[]⟩, 0, 0, .nil, 0, .zero, .zero, .nil⟩
def Ob.zero : Ob := ⟨0, ⟨#[]⟩, 0, .zero, .zero, .zero, .zero, .zero⟩
end Go.Proofs.Mem
