/-
  What trimtablaw07.Right says of any object of the kinds 0 to 3; The walks of package label: value, Right; that Right says what the document's rule says.; slices.IndexFunc and slices.ContainsFunc at one function; The walks of package valid: numbers, names, sizes, wants, shapes; The walks of package valid: all, behavior, past, hpa; The walk of valid.empties at any object
-/
import Derived.Test.YtlhaiflebigdlaaGreatCSPys3
import Derived.Test.YtlhaiflebigdlaaGreatCSPys1
section
namespace Go.Proofs.YtlhaiflebigdlaaGreat
open Go.RowKit Go.Proofs.Mem
set_option linter.unusedVariables false
set_option linter.unusedSimpArgs false
def callTab : List (Nat × SV) → Nat → Option SV
  | [], _ => none
  | (k, v) :: r, s => match Nat.beq k s with
    | true => some v
    | false => callTab r s
def litIn : List Nat → Nat → Bool
  | [], _ => false
  | k :: r, s => match Nat.beq k s with
    | true => true
    | false => litIn r s
theorem aggOk {B : List (List Value)} {call : Nat → Option SV} {n : Nat} {gl : Nat → Bool} : AggOk ⟨Tryz.prog, B, aggR, call, n, gl⟩ := aggR_ok
theorem px_plain {f : FuncId} {fn : Func} {args : List Value} {w : World} {R : Ending → World → Prop} (call : Nat → Option SV) (lit : Nat → Bool) (n : Nat)
    (hf : Tryz.prog.funcs[f]? = some fn) (hb : fn.body.isSome = true) (hn : fn.ntmps = n) (ha : args.length ≤ n) (ow : List Owed) (su : List (Bool × Bool)) (vs : List SV)
    (hs : (px2Code ⟨⟨Tryz.prog, [], aggR, call, n, fun _ => false⟩, w, fun _ => True, 0, [], fun _ => none, lit, fun _ => none⟩ (fn.body.getD .skip) ⟨argF 0 (args.map SV.v), []⟩).sum Tryz.prog fn.results.toList (fun _ => []) = some ⟨⟨ow, [], su⟩, vs⟩)
    (hsu : ∀ p ∈ su, p.1 = p.2) (hO : ∀ x ∈ ow, x.paid2 ⟨Tryz.prog, [], aggR, call, n, fun _ => false⟩ w (fun _ => True)) (hR : ∀ ρ w', Below w.heap.size w w' → R (.returned (resVal ρ vs)) w') : Calls Tryz.prog f args.toArray w R := by
  have hb' : fn.body = some (fn.body.getD .skip) := by
    cases h : fn.body with
    | none => rw [h] at hb; cases hb
    | some c => rfl
  have h := px_calls (H := ⟨⟨Tryz.prog, [], aggR, call, n, fun _ => false⟩, w, fun _ => True, 0, [], fun _ => none, lit, fun _ => none⟩) (ρ0 := fun _ => (0, 0)) (R := R) aggOk (fun _ _ _ _ h => h) (by kernel_rfl) hf hb' hn (args := args.map SV.v) (B := []) (by simp; rw [hn]; exact ha) rfl
    (fun v hv => by obtain ⟨x, _, rfl⟩ := List.mem_map.1 hv; rfl) trivial (Nat.le_refl _) (fun i b h => by cases h) (fun _ => []) ⟨ow, [], su⟩ vs hs ⟨hO, (fun q hq => by cases hq), hsu⟩ (fun ρ w' _ hb => hR ρ w' hb)
  rw [List.map_map] at h
  have e : args.map (SV.den (fun _ => (0, 0)) ∘ SV.v) = args := by
    rw [show (SV.den (fun _ => (0, 0)) ∘ SV.v) = id from rfl, List.map_id]
  rw [e] at h
  exact h
theorem paid2_nil {E : PE} {W0 : World} {X : (Nat → Nat × Nat) → Prop} : ∀ x ∈ ([] : List Owed), x.paid2 E W0 X := fun x hx => by cases hx
theorem paid2_cons {E : PE} {W0 : World} {X : (Nat → Nat × Nat) → Prop} {y : Owed} {l : List Owed} (h : y.paid2 E W0 X) (hl : ∀ x ∈ l, x.paid2 E W0 X) : ∀ x ∈ y :: l, x.paid2 E W0 X := fun x hx => by
  rcases List.mem_cons.1 hx with rfl | hx
  · exact h
  · exact hl x hx
def mayW (em : Bool) (x : Wl) : Bool := ((em && decide (0 ≤ x.replicas)) && decide (x.replicas ≤ 1000000)) && wantsB x.cpu x.mem x.labels.l x.select.l x.tolerate.l x.warm
def mayP1 (em : Bool) (x : Pd) : Bool := (((((((em && nmB x.owner) && (strE x.node || nmB x.node)) && decide (0 ≤ x.phase)) && decide (x.phase ≤ 3)) && decide (0 ≤ x.since)) && decide (x.since ≤ 4611686018427387904)) && wantsB x.cpu x.mem x.labels.l x.select.l x.tolerate.l x.warm)
def mayP (em : Bool) (x : Pd) : Bool := mayP1 em x && ((x.phase == 3) || ((x.phase == 0) == strE x.node))
def mayN (em : Bool) (x : Nd) : Bool := (((((em && (strE x.group || nmB x.group)) && szB x.cpu x.mem) && rtB x.labels.l) && rtB x.taints.l) && decide (0 ≤ x.since)) && decide (x.since ≤ 4611686018427387904)
def mayG (em : Bool) (x : Gr) : Bool := ((((((((em && decide (0 ≤ x.min)) && decide (x.min ≤ x.target)) && decide (x.target ≤ x.max)) && decide (x.max ≤ 64)) && szB x.cpu x.mem) && rtB x.labels.l) && rtB x.taints.l) && decide (0 ≤ x.priority)) && decide (x.priority ≤ 1000)
def rightV (name : ByteArray) (may : Bool) : Value := pickV (!(nmB name)) (.int .i64 6) (pickV (!may) (.int .i64 2) (.int .i64 0))
def errN (name : ByteArray) (may : Bool) : Int := if nmB name then (if may then 0 else 2) else 6
theorem rightV_eq (name : ByteArray) (may : Bool) : rightV name may = .int .i64 (errN name may) := by
  unfold rightV errN
  rw [pickV_eq, pickV_eq]
  cases nmB name <;> cases may <;> rfl
set_option maxRecDepth 100000 in
theorem right_wl (o : Ob) (w : World) (ho : o.Ok w) (hk : o.kind = 0) : Calls Tryz.prog 19 #[.agg o.cells.toArray] w fun e w' => e = .returned (.int .i64 (errN o.name (mayW (emptyB o) o.w))) ∧ Below w.heap.size w w' := by
  obtain ⟨kind, name, version, ow, op, on, og, oh⟩ := o
  simp only at hk
  subst hk
  obtain ⟨x0, x1, x2, ⟨v3, l3⟩, ⟨v4, l4⟩, ⟨v5, l5⟩, x6⟩ := ow
  obtain ⟨A3, c3, rfl⟩ : ∃ A c, v3 = .slice A l3.length c := by obtain ⟨A, c, e, _⟩ := ho.w.labels.1; exact ⟨A, c, e⟩
  obtain ⟨A4, c4, rfl⟩ : ∃ A c, v4 = .slice A l4.length c := by obtain ⟨A, c, e, _⟩ := ho.w.select.1; exact ⟨A, c, e⟩
  obtain ⟨A5, c5, rfl⟩ : ∃ A c, v5 = .slice A l5.length c := by obtain ⟨A, c, e, _⟩ := ho.w.tolerate.1; exact ⟨A, c, e⟩
  refine px_plain (args := [.agg (Ob.mk 0 name version (⟨x0, x1, x2, ⟨.slice A3 l3.length c3, l3⟩, ⟨.slice A4 l4.length c4, l4⟩, ⟨.slice A5 l5.length c5, l5⟩, x6⟩ : Wl) op on og oh).cells.toArray]) (callTab [(23, .v (.bool (nmB name))), (26, .v (.bool (emptyB (Ob.mk 0 name version (⟨x0, x1, x2, ⟨.slice A3 l3.length c3, l3⟩, ⟨.slice A4 l4.length c4, l4⟩, ⟨.slice A5 l5.length c5, l5⟩, x6⟩ : Wl) op on og oh)))), (55, .v (.bool (wantsB (⟨x0, x1, x2, ⟨.slice A3 l3.length c3, l3⟩, ⟨.slice A4 l4.length c4, l4⟩, ⟨.slice A5 l5.length c5, l5⟩, x6⟩ : Wl).cpu (⟨x0, x1, x2, ⟨.slice A3 l3.length c3, l3⟩, ⟨.slice A4 l4.length c4, l4⟩, ⟨.slice A5 l5.length c5, l5⟩, x6⟩ : Wl).mem (⟨x0, x1, x2, ⟨.slice A3 l3.length c3, l3⟩, ⟨.slice A4 l4.length c4, l4⟩, ⟨.slice A5 l5.length c5, l5⟩, x6⟩ : Wl).labels.l (⟨x0, x1, x2, ⟨.slice A3 l3.length c3, l3⟩, ⟨.slice A4 l4.length c4, l4⟩, ⟨.slice A5 l5.length c5, l5⟩, x6⟩ : Wl).select.l (⟨x0, x1, x2, ⟨.slice A3 l3.length c3, l3⟩, ⟨.slice A4 l4.length c4, l4⟩, ⟨.slice A5 l5.length c5, l5⟩, x6⟩ : Wl).tolerate.l (⟨x0, x1, x2, ⟨.slice A3 l3.length c3, l3⟩, ⟨.slice A4 l4.length c4, l4⟩, ⟨.slice A5 l5.length c5, l5⟩, x6⟩ : Wl).warm)))]) (litIn [20, 29, 57, 125, 165, 219]) 392 Tryz.func19 (by kernel_rfl) (by kernel_rfl) (by simp)
    [.call 32 [.v (.string name)] (.v (.bool (nmB name))), .call 33 [.v (.agg (Ob.mk 0 name version (⟨x0, x1, x2, ⟨.slice A3 l3.length c3, l3⟩, ⟨.slice A4 l4.length c4, l4⟩, ⟨.slice A5 l5.length c5, l5⟩, x6⟩ : Wl) op on og oh).cells.toArray)] (.v (.bool (emptyB (Ob.mk 0 name version (⟨x0, x1, x2, ⟨.slice A3 l3.length c3, l3⟩, ⟨.slice A4 l4.length c4, l4⟩, ⟨.slice A5 l5.length c5, l5⟩, x6⟩ : Wl) op on og oh)))), .call 34 [.v (.agg #[.int .i64 (⟨x0, x1, x2, ⟨.slice A3 l3.length c3, l3⟩, ⟨.slice A4 l4.length c4, l4⟩, ⟨.slice A5 l5.length c5, l5⟩, x6⟩ : Wl).cpu, .int .i64 (⟨x0, x1, x2, ⟨.slice A3 l3.length c3, l3⟩, ⟨.slice A4 l4.length c4, l4⟩, ⟨.slice A5 l5.length c5, l5⟩, x6⟩ : Wl).mem]), .v ((⟨x0, x1, x2, ⟨.slice A3 l3.length c3, l3⟩, ⟨.slice A4 l4.length c4, l4⟩, ⟨.slice A5 l5.length c5, l5⟩, x6⟩ : Wl).labels.v), .v ((⟨x0, x1, x2, ⟨.slice A3 l3.length c3, l3⟩, ⟨.slice A4 l4.length c4, l4⟩, ⟨.slice A5 l5.length c5, l5⟩, x6⟩ : Wl).select.v), .v ((⟨x0, x1, x2, ⟨.slice A3 l3.length c3, l3⟩, ⟨.slice A4 l4.length c4, l4⟩, ⟨.slice A5 l5.length c5, l5⟩, x6⟩ : Wl).tolerate.v), .v (.int .i64 (⟨x0, x1, x2, ⟨.slice A3 l3.length c3, l3⟩, ⟨.slice A4 l4.length c4, l4⟩, ⟨.slice A5 l5.length c5, l5⟩, x6⟩ : Wl).warm)] (.v (.bool (wantsB (⟨x0, x1, x2, ⟨.slice A3 l3.length c3, l3⟩, ⟨.slice A4 l4.length c4, l4⟩, ⟨.slice A5 l5.length c5, l5⟩, x6⟩ : Wl).cpu (⟨x0, x1, x2, ⟨.slice A3 l3.length c3, l3⟩, ⟨.slice A4 l4.length c4, l4⟩, ⟨.slice A5 l5.length c5, l5⟩, x6⟩ : Wl).mem (⟨x0, x1, x2, ⟨.slice A3 l3.length c3, l3⟩, ⟨.slice A4 l4.length c4, l4⟩, ⟨.slice A5 l5.length c5, l5⟩, x6⟩ : Wl).labels.l (⟨x0, x1, x2, ⟨.slice A3 l3.length c3, l3⟩, ⟨.slice A4 l4.length c4, l4⟩, ⟨.slice A5 l5.length c5, l5⟩, x6⟩ : Wl).select.l (⟨x0, x1, x2, ⟨.slice A3 l3.length c3, l3⟩, ⟨.slice A4 l4.length c4, l4⟩, ⟨.slice A5 l5.length c5, l5⟩, x6⟩ : Wl).tolerate.l (⟨x0, x1, x2, ⟨.slice A3 l3.length c3, l3⟩, ⟨.slice A4 l4.length c4, l4⟩, ⟨.slice A5 l5.length c5, l5⟩, x6⟩ : Wl).warm)))] []
    [.v (rightV name (mayW (emptyB (Ob.mk 0 name version (⟨x0, x1, x2, ⟨.slice A3 l3.length c3, l3⟩, ⟨.slice A4 l4.length c4, l4⟩, ⟨.slice A5 l5.length c5, l5⟩, x6⟩ : Wl) op on og oh)) (⟨x0, x1, x2, ⟨.slice A3 l3.length c3, l3⟩, ⟨.slice A4 l4.length c4, l4⟩, ⟨.slice A5 l5.length c5, l5⟩, x6⟩ : Wl)))] (by kernel_rfl) (fun p hp => by cases hp) ?_ ?_
  · refine paid2_cons (fun ρ _ w1 hb => (name_any name w1 ho.name).mono fun e w' ⟨h1, h2⟩ => ⟨h1, h2 ▸ Below.refl _ _⟩) (paid2_cons (fun ρ _ w1 hb => empty_any _ w1 (ho.below hb)) ?_)
    exact paid2_cons (fun ρ _ w1 hb => wants_any _ _ _ _ _ _ w1 (ho.w.labels.below hb) (ho.w.select.below hb) (ho.w.tolerate.below hb)) (paid2_nil)
  · intro ρ w' hb
    exact ⟨by show Ending.returned (rightV name _) = _; rw [rightV_eq], hb⟩
set_option maxRecDepth 100000 in
theorem right_pd (o : Ob) (w : World) (ho : o.Ok w) (hk : o.kind = 1) : Calls Tryz.prog 19 #[.agg o.cells.toArray] w fun e w' => e = .returned (.int .i64 (errN o.name (mayP (emptyB o) o.p))) ∧ Below w.heap.size w w' := by
  obtain ⟨kind, name, version, ow, op, on, og, oh⟩ := o
  simp only at hk
  subst hk
  obtain ⟨x0, x1, x2, x3, x4, x5, ⟨v6, l6⟩, ⟨v7, l7⟩, ⟨v8, l8⟩, x9⟩ := op
  obtain ⟨A6, c6, rfl⟩ : ∃ A c, v6 = .slice A l6.length c := by obtain ⟨A, c, e, _⟩ := ho.p.labels.1; exact ⟨A, c, e⟩
  obtain ⟨A7, c7, rfl⟩ : ∃ A c, v7 = .slice A l7.length c := by obtain ⟨A, c, e, _⟩ := ho.p.select.1; exact ⟨A, c, e⟩
  obtain ⟨A8, c8, rfl⟩ : ∃ A c, v8 = .slice A l8.length c := by obtain ⟨A, c, e, _⟩ := ho.p.tolerate.1; exact ⟨A, c, e⟩
  refine px_plain (args := [.agg (Ob.mk 1 name version ow (⟨x0, x1, x2, x3, x4, x5, ⟨.slice A6 l6.length c6, l6⟩, ⟨.slice A7 l7.length c7, l7⟩, ⟨.slice A8 l8.length c8, l8⟩, x9⟩ : Pd) on og oh).cells.toArray]) (callTab [(23, .v (.bool (nmB name))), (26, .v (.bool (emptyB (Ob.mk 1 name version ow (⟨x0, x1, x2, x3, x4, x5, ⟨.slice A6 l6.length c6, l6⟩, ⟨.slice A7 l7.length c7, l7⟩, ⟨.slice A8 l8.length c8, l8⟩, x9⟩ : Pd) on og oh)))), (65, .v (.bool (nmB (⟨x0, x1, x2, x3, x4, x5, ⟨.slice A6 l6.length c6, l6⟩, ⟨.slice A7 l7.length c7, l7⟩, ⟨.slice A8 l8.length c8, l8⟩, x9⟩ : Pd).owner))), (74, .v (.bool (nmB (⟨x0, x1, x2, x3, x4, x5, ⟨.slice A6 l6.length c6, l6⟩, ⟨.slice A7 l7.length c7, l7⟩, ⟨.slice A8 l8.length c8, l8⟩, x9⟩ : Pd).node))), (108, .v (.bool (wantsB (⟨x0, x1, x2, x3, x4, x5, ⟨.slice A6 l6.length c6, l6⟩, ⟨.slice A7 l7.length c7, l7⟩, ⟨.slice A8 l8.length c8, l8⟩, x9⟩ : Pd).cpu (⟨x0, x1, x2, x3, x4, x5, ⟨.slice A6 l6.length c6, l6⟩, ⟨.slice A7 l7.length c7, l7⟩, ⟨.slice A8 l8.length c8, l8⟩, x9⟩ : Pd).mem (⟨x0, x1, x2, x3, x4, x5, ⟨.slice A6 l6.length c6, l6⟩, ⟨.slice A7 l7.length c7, l7⟩, ⟨.slice A8 l8.length c8, l8⟩, x9⟩ : Pd).labels.l (⟨x0, x1, x2, x3, x4, x5, ⟨.slice A6 l6.length c6, l6⟩, ⟨.slice A7 l7.length c7, l7⟩, ⟨.slice A8 l8.length c8, l8⟩, x9⟩ : Pd).select.l (⟨x0, x1, x2, x3, x4, x5, ⟨.slice A6 l6.length c6, l6⟩, ⟨.slice A7 l7.length c7, l7⟩, ⟨.slice A8 l8.length c8, l8⟩, x9⟩ : Pd).tolerate.l (⟨x0, x1, x2, x3, x4, x5, ⟨.slice A6 l6.length c6, l6⟩, ⟨.slice A7 l7.length c7, l7⟩, ⟨.slice A8 l8.length c8, l8⟩, x9⟩ : Pd).warm)))]) (litIn [20, 29, 57, 125, 165, 219]) 392 Tryz.func19 (by kernel_rfl) (by kernel_rfl) (by simp)
    [.call 32 [.v (.string name)] (.v (.bool (nmB name))), .call 33 [.v (.agg (Ob.mk 1 name version ow (⟨x0, x1, x2, x3, x4, x5, ⟨.slice A6 l6.length c6, l6⟩, ⟨.slice A7 l7.length c7, l7⟩, ⟨.slice A8 l8.length c8, l8⟩, x9⟩ : Pd) on og oh).cells.toArray)] (.v (.bool (emptyB (Ob.mk 1 name version ow (⟨x0, x1, x2, x3, x4, x5, ⟨.slice A6 l6.length c6, l6⟩, ⟨.slice A7 l7.length c7, l7⟩, ⟨.slice A8 l8.length c8, l8⟩, x9⟩ : Pd) on og oh)))), .call 32 [.v (.string (⟨x0, x1, x2, x3, x4, x5, ⟨.slice A6 l6.length c6, l6⟩, ⟨.slice A7 l7.length c7, l7⟩, ⟨.slice A8 l8.length c8, l8⟩, x9⟩ : Pd).owner)] (.v (.bool (nmB (⟨x0, x1, x2, x3, x4, x5, ⟨.slice A6 l6.length c6, l6⟩, ⟨.slice A7 l7.length c7, l7⟩, ⟨.slice A8 l8.length c8, l8⟩, x9⟩ : Pd).owner))), .call 32 [.v (.string (⟨x0, x1, x2, x3, x4, x5, ⟨.slice A6 l6.length c6, l6⟩, ⟨.slice A7 l7.length c7, l7⟩, ⟨.slice A8 l8.length c8, l8⟩, x9⟩ : Pd).node)] (.v (.bool (nmB (⟨x0, x1, x2, x3, x4, x5, ⟨.slice A6 l6.length c6, l6⟩, ⟨.slice A7 l7.length c7, l7⟩, ⟨.slice A8 l8.length c8, l8⟩, x9⟩ : Pd).node))), .call 34 [.v (.agg #[.int .i64 (⟨x0, x1, x2, x3, x4, x5, ⟨.slice A6 l6.length c6, l6⟩, ⟨.slice A7 l7.length c7, l7⟩, ⟨.slice A8 l8.length c8, l8⟩, x9⟩ : Pd).cpu, .int .i64 (⟨x0, x1, x2, x3, x4, x5, ⟨.slice A6 l6.length c6, l6⟩, ⟨.slice A7 l7.length c7, l7⟩, ⟨.slice A8 l8.length c8, l8⟩, x9⟩ : Pd).mem]), .v ((⟨x0, x1, x2, x3, x4, x5, ⟨.slice A6 l6.length c6, l6⟩, ⟨.slice A7 l7.length c7, l7⟩, ⟨.slice A8 l8.length c8, l8⟩, x9⟩ : Pd).labels.v), .v ((⟨x0, x1, x2, x3, x4, x5, ⟨.slice A6 l6.length c6, l6⟩, ⟨.slice A7 l7.length c7, l7⟩, ⟨.slice A8 l8.length c8, l8⟩, x9⟩ : Pd).select.v), .v ((⟨x0, x1, x2, x3, x4, x5, ⟨.slice A6 l6.length c6, l6⟩, ⟨.slice A7 l7.length c7, l7⟩, ⟨.slice A8 l8.length c8, l8⟩, x9⟩ : Pd).tolerate.v), .v (.int .i64 (⟨x0, x1, x2, x3, x4, x5, ⟨.slice A6 l6.length c6, l6⟩, ⟨.slice A7 l7.length c7, l7⟩, ⟨.slice A8 l8.length c8, l8⟩, x9⟩ : Pd).warm)] (.v (.bool (wantsB (⟨x0, x1, x2, x3, x4, x5, ⟨.slice A6 l6.length c6, l6⟩, ⟨.slice A7 l7.length c7, l7⟩, ⟨.slice A8 l8.length c8, l8⟩, x9⟩ : Pd).cpu (⟨x0, x1, x2, x3, x4, x5, ⟨.slice A6 l6.length c6, l6⟩, ⟨.slice A7 l7.length c7, l7⟩, ⟨.slice A8 l8.length c8, l8⟩, x9⟩ : Pd).mem (⟨x0, x1, x2, x3, x4, x5, ⟨.slice A6 l6.length c6, l6⟩, ⟨.slice A7 l7.length c7, l7⟩, ⟨.slice A8 l8.length c8, l8⟩, x9⟩ : Pd).labels.l (⟨x0, x1, x2, x3, x4, x5, ⟨.slice A6 l6.length c6, l6⟩, ⟨.slice A7 l7.length c7, l7⟩, ⟨.slice A8 l8.length c8, l8⟩, x9⟩ : Pd).select.l (⟨x0, x1, x2, x3, x4, x5, ⟨.slice A6 l6.length c6, l6⟩, ⟨.slice A7 l7.length c7, l7⟩, ⟨.slice A8 l8.length c8, l8⟩, x9⟩ : Pd).tolerate.l (⟨x0, x1, x2, x3, x4, x5, ⟨.slice A6 l6.length c6, l6⟩, ⟨.slice A7 l7.length c7, l7⟩, ⟨.slice A8 l8.length c8, l8⟩, x9⟩ : Pd).warm)))] []
    [.v (rightV name (mayP (emptyB (Ob.mk 1 name version ow (⟨x0, x1, x2, x3, x4, x5, ⟨.slice A6 l6.length c6, l6⟩, ⟨.slice A7 l7.length c7, l7⟩, ⟨.slice A8 l8.length c8, l8⟩, x9⟩ : Pd) on og oh)) (⟨x0, x1, x2, x3, x4, x5, ⟨.slice A6 l6.length c6, l6⟩, ⟨.slice A7 l7.length c7, l7⟩, ⟨.slice A8 l8.length c8, l8⟩, x9⟩ : Pd)))] (by kernel_rfl) (fun p hp => by cases hp) ?_ ?_
  · refine paid2_cons (fun ρ _ w1 hb => (name_any name w1 ho.name).mono fun e w' ⟨h1, h2⟩ => ⟨h1, h2 ▸ Below.refl _ _⟩) (paid2_cons (fun ρ _ w1 hb => empty_any _ w1 (ho.below hb)) ?_)
    exact paid2_cons (fun ρ _ w1 hb => (name_any _ w1 ho.p.owner).mono fun e w' ⟨h1, h2⟩ => ⟨h1, h2 ▸ Below.refl _ _⟩) (paid2_cons (fun ρ _ w1 hb => (name_any _ w1 ho.p.node).mono fun e w' ⟨h1, h2⟩ => ⟨h1, h2 ▸ Below.refl _ _⟩) (paid2_cons (fun ρ _ w1 hb => wants_any _ _ _ _ _ _ w1 (ho.p.labels.below hb) (ho.p.select.below hb) (ho.p.tolerate.below hb)) (paid2_nil)))
  · intro ρ w' hb
    exact ⟨by show Ending.returned (rightV name _) = _; rw [rightV_eq], hb⟩
set_option maxRecDepth 100000 in
theorem right_nd (o : Ob) (w : World) (ho : o.Ok w) (hk : o.kind = 2) : Calls Tryz.prog 19 #[.agg o.cells.toArray] w fun e w' => e = .returned (.int .i64 (errN o.name (mayN (emptyB o) o.n))) ∧ Below w.heap.size w w' := by
  obtain ⟨kind, name, version, ow, op, on, og, oh⟩ := o
  simp only at hk
  subst hk
  obtain ⟨x0, x1, x2, ⟨v3, l3⟩, ⟨v4, l4⟩, x5, x6⟩ := on
  obtain ⟨A3, c3, rfl⟩ : ∃ A c, v3 = .slice A l3.length c := by obtain ⟨A, c, e, _⟩ := ho.n.labels.1; exact ⟨A, c, e⟩
  obtain ⟨A4, c4, rfl⟩ : ∃ A c, v4 = .slice A l4.length c := by obtain ⟨A, c, e, _⟩ := ho.n.taints.1; exact ⟨A, c, e⟩
  refine px_plain (args := [.agg (Ob.mk 2 name version ow op (⟨x0, x1, x2, ⟨.slice A3 l3.length c3, l3⟩, ⟨.slice A4 l4.length c4, l4⟩, x5, x6⟩ : Nd) og oh).cells.toArray]) (callTab [(23, .v (.bool (nmB name))), (26, .v (.bool (emptyB (Ob.mk 2 name version ow op (⟨x0, x1, x2, ⟨.slice A3 l3.length c3, l3⟩, ⟨.slice A4 l4.length c4, l4⟩, x5, x6⟩ : Nd) og oh)))), (137, .v (.bool (nmB (⟨x0, x1, x2, ⟨.slice A3 l3.length c3, l3⟩, ⟨.slice A4 l4.length c4, l4⟩, x5, x6⟩ : Nd).group))), (143, .v (.bool (szB (⟨x0, x1, x2, ⟨.slice A3 l3.length c3, l3⟩, ⟨.slice A4 l4.length c4, l4⟩, x5, x6⟩ : Nd).cpu (⟨x0, x1, x2, ⟨.slice A3 l3.length c3, l3⟩, ⟨.slice A4 l4.length c4, l4⟩, x5, x6⟩ : Nd).mem))), (148, .v (.bool (rtB (⟨x0, x1, x2, ⟨.slice A3 l3.length c3, l3⟩, ⟨.slice A4 l4.length c4, l4⟩, x5, x6⟩ : Nd).labels.l))), (153, .v (.bool (rtB (⟨x0, x1, x2, ⟨.slice A3 l3.length c3, l3⟩, ⟨.slice A4 l4.length c4, l4⟩, x5, x6⟩ : Nd).taints.l)))]) (litIn [20, 29, 57, 125, 165, 219]) 392 Tryz.func19 (by kernel_rfl) (by kernel_rfl) (by simp)
    [.call 32 [.v (.string name)] (.v (.bool (nmB name))), .call 33 [.v (.agg (Ob.mk 2 name version ow op (⟨x0, x1, x2, ⟨.slice A3 l3.length c3, l3⟩, ⟨.slice A4 l4.length c4, l4⟩, x5, x6⟩ : Nd) og oh).cells.toArray)] (.v (.bool (emptyB (Ob.mk 2 name version ow op (⟨x0, x1, x2, ⟨.slice A3 l3.length c3, l3⟩, ⟨.slice A4 l4.length c4, l4⟩, x5, x6⟩ : Nd) og oh)))), .call 32 [.v (.string (⟨x0, x1, x2, ⟨.slice A3 l3.length c3, l3⟩, ⟨.slice A4 l4.length c4, l4⟩, x5, x6⟩ : Nd).group)] (.v (.bool (nmB (⟨x0, x1, x2, ⟨.slice A3 l3.length c3, l3⟩, ⟨.slice A4 l4.length c4, l4⟩, x5, x6⟩ : Nd).group))), .call 35 [.v (.agg #[.int .i64 (⟨x0, x1, x2, ⟨.slice A3 l3.length c3, l3⟩, ⟨.slice A4 l4.length c4, l4⟩, x5, x6⟩ : Nd).cpu, .int .i64 (⟨x0, x1, x2, ⟨.slice A3 l3.length c3, l3⟩, ⟨.slice A4 l4.length c4, l4⟩, x5, x6⟩ : Nd).mem])] (.v (.bool (szB (⟨x0, x1, x2, ⟨.slice A3 l3.length c3, l3⟩, ⟨.slice A4 l4.length c4, l4⟩, x5, x6⟩ : Nd).cpu (⟨x0, x1, x2, ⟨.slice A3 l3.length c3, l3⟩, ⟨.slice A4 l4.length c4, l4⟩, x5, x6⟩ : Nd).mem))), .call 36 [.v ((⟨x0, x1, x2, ⟨.slice A3 l3.length c3, l3⟩, ⟨.slice A4 l4.length c4, l4⟩, x5, x6⟩ : Nd).labels.v)] (.v (.bool (rtB (⟨x0, x1, x2, ⟨.slice A3 l3.length c3, l3⟩, ⟨.slice A4 l4.length c4, l4⟩, x5, x6⟩ : Nd).labels.l))), .call 36 [.v ((⟨x0, x1, x2, ⟨.slice A3 l3.length c3, l3⟩, ⟨.slice A4 l4.length c4, l4⟩, x5, x6⟩ : Nd).taints.v)] (.v (.bool (rtB (⟨x0, x1, x2, ⟨.slice A3 l3.length c3, l3⟩, ⟨.slice A4 l4.length c4, l4⟩, x5, x6⟩ : Nd).taints.l)))] []
    [.v (rightV name (mayN (emptyB (Ob.mk 2 name version ow op (⟨x0, x1, x2, ⟨.slice A3 l3.length c3, l3⟩, ⟨.slice A4 l4.length c4, l4⟩, x5, x6⟩ : Nd) og oh)) (⟨x0, x1, x2, ⟨.slice A3 l3.length c3, l3⟩, ⟨.slice A4 l4.length c4, l4⟩, x5, x6⟩ : Nd)))] (by kernel_rfl) (fun p hp => by cases hp) ?_ ?_
  · refine paid2_cons (fun ρ _ w1 hb => (name_any name w1 ho.name).mono fun e w' ⟨h1, h2⟩ => ⟨h1, h2 ▸ Below.refl _ _⟩) (paid2_cons (fun ρ _ w1 hb => empty_any _ w1 (ho.below hb)) ?_)
    exact paid2_cons (fun ρ _ w1 hb => (name_any _ w1 ho.n.group).mono fun e w' ⟨h1, h2⟩ => ⟨h1, h2 ▸ Below.refl _ _⟩) (paid2_cons (fun ρ _ w1 hb => sized_any _ _ w1) (paid2_cons (fun ρ _ w1 hb => right5_any _ w1 (ho.n.labels.below hb)) (paid2_cons (fun ρ _ w1 hb => right5_any _ w1 (ho.n.taints.below hb)) (paid2_nil))))
  · intro ρ w' hb
    exact ⟨by show Ending.returned (rightV name _) = _; rw [rightV_eq], hb⟩
set_option maxRecDepth 100000 in
theorem right_gr (o : Ob) (w : World) (ho : o.Ok w) (hk : o.kind = 3) : Calls Tryz.prog 19 #[.agg o.cells.toArray] w fun e w' => e = .returned (.int .i64 (errN o.name (mayG (emptyB o) o.g))) ∧ Below w.heap.size w w' := by
  obtain ⟨kind, name, version, ow, op, on, og, oh⟩ := o
  simp only at hk
  subst hk
  obtain ⟨x0, x1, x2, x3, x4, ⟨v5, l5⟩, ⟨v6, l6⟩, x7⟩ := og
  obtain ⟨A5, c5, rfl⟩ : ∃ A c, v5 = .slice A l5.length c := by obtain ⟨A, c, e, _⟩ := ho.g.labels.1; exact ⟨A, c, e⟩
  obtain ⟨A6, c6, rfl⟩ : ∃ A c, v6 = .slice A l6.length c := by obtain ⟨A, c, e, _⟩ := ho.g.taints.1; exact ⟨A, c, e⟩
  refine px_plain (args := [.agg (Ob.mk 3 name version ow op on (⟨x0, x1, x2, x3, x4, ⟨.slice A5 l5.length c5, l5⟩, ⟨.slice A6 l6.length c6, l6⟩, x7⟩ : Gr) oh).cells.toArray]) (callTab [(23, .v (.bool (nmB name))), (26, .v (.bool (emptyB (Ob.mk 3 name version ow op on (⟨x0, x1, x2, x3, x4, ⟨.slice A5 l5.length c5, l5⟩, ⟨.slice A6 l6.length c6, l6⟩, x7⟩ : Gr) oh)))), (197, .v (.bool (szB (⟨x0, x1, x2, x3, x4, ⟨.slice A5 l5.length c5, l5⟩, ⟨.slice A6 l6.length c6, l6⟩, x7⟩ : Gr).cpu (⟨x0, x1, x2, x3, x4, ⟨.slice A5 l5.length c5, l5⟩, ⟨.slice A6 l6.length c6, l6⟩, x7⟩ : Gr).mem))), (202, .v (.bool (rtB (⟨x0, x1, x2, x3, x4, ⟨.slice A5 l5.length c5, l5⟩, ⟨.slice A6 l6.length c6, l6⟩, x7⟩ : Gr).labels.l))), (207, .v (.bool (rtB (⟨x0, x1, x2, x3, x4, ⟨.slice A5 l5.length c5, l5⟩, ⟨.slice A6 l6.length c6, l6⟩, x7⟩ : Gr).taints.l)))]) (litIn [20, 29, 57, 125, 165, 219]) 392 Tryz.func19 (by kernel_rfl) (by kernel_rfl) (by simp)
    [.call 32 [.v (.string name)] (.v (.bool (nmB name))), .call 33 [.v (.agg (Ob.mk 3 name version ow op on (⟨x0, x1, x2, x3, x4, ⟨.slice A5 l5.length c5, l5⟩, ⟨.slice A6 l6.length c6, l6⟩, x7⟩ : Gr) oh).cells.toArray)] (.v (.bool (emptyB (Ob.mk 3 name version ow op on (⟨x0, x1, x2, x3, x4, ⟨.slice A5 l5.length c5, l5⟩, ⟨.slice A6 l6.length c6, l6⟩, x7⟩ : Gr) oh)))), .call 35 [.v (.agg #[.int .i64 (⟨x0, x1, x2, x3, x4, ⟨.slice A5 l5.length c5, l5⟩, ⟨.slice A6 l6.length c6, l6⟩, x7⟩ : Gr).cpu, .int .i64 (⟨x0, x1, x2, x3, x4, ⟨.slice A5 l5.length c5, l5⟩, ⟨.slice A6 l6.length c6, l6⟩, x7⟩ : Gr).mem])] (.v (.bool (szB (⟨x0, x1, x2, x3, x4, ⟨.slice A5 l5.length c5, l5⟩, ⟨.slice A6 l6.length c6, l6⟩, x7⟩ : Gr).cpu (⟨x0, x1, x2, x3, x4, ⟨.slice A5 l5.length c5, l5⟩, ⟨.slice A6 l6.length c6, l6⟩, x7⟩ : Gr).mem))), .call 36 [.v ((⟨x0, x1, x2, x3, x4, ⟨.slice A5 l5.length c5, l5⟩, ⟨.slice A6 l6.length c6, l6⟩, x7⟩ : Gr).labels.v)] (.v (.bool (rtB (⟨x0, x1, x2, x3, x4, ⟨.slice A5 l5.length c5, l5⟩, ⟨.slice A6 l6.length c6, l6⟩, x7⟩ : Gr).labels.l))), .call 36 [.v ((⟨x0, x1, x2, x3, x4, ⟨.slice A5 l5.length c5, l5⟩, ⟨.slice A6 l6.length c6, l6⟩, x7⟩ : Gr).taints.v)] (.v (.bool (rtB (⟨x0, x1, x2, x3, x4, ⟨.slice A5 l5.length c5, l5⟩, ⟨.slice A6 l6.length c6, l6⟩, x7⟩ : Gr).taints.l)))] []
    [.v (rightV name (mayG (emptyB (Ob.mk 3 name version ow op on (⟨x0, x1, x2, x3, x4, ⟨.slice A5 l5.length c5, l5⟩, ⟨.slice A6 l6.length c6, l6⟩, x7⟩ : Gr) oh)) (⟨x0, x1, x2, x3, x4, ⟨.slice A5 l5.length c5, l5⟩, ⟨.slice A6 l6.length c6, l6⟩, x7⟩ : Gr)))] (by kernel_rfl) (fun p hp => by cases hp) ?_ ?_
  · refine paid2_cons (fun ρ _ w1 hb => (name_any name w1 ho.name).mono fun e w' ⟨h1, h2⟩ => ⟨h1, h2 ▸ Below.refl _ _⟩) (paid2_cons (fun ρ _ w1 hb => empty_any _ w1 (ho.below hb)) ?_)
    exact paid2_cons (fun ρ _ w1 hb => sized_any _ _ w1) (paid2_cons (fun ρ _ w1 hb => right5_any _ w1 (ho.g.labels.below hb)) (paid2_cons (fun ρ _ w1 hb => right5_any _ w1 (ho.g.taints.below hb)) (paid2_nil)))
  · intro ρ w' hb
    exact ⟨by show Ending.returned (rightV name _) = _; rw [rightV_eq], hb⟩
end Go.Proofs.YtlhaiflebigdlaaGreat
end
section
namespace Go.Proofs.YtlhaiflebigdlaaGreat
open Go.RowKit Go.Proofs.Mem
set_option linter.unusedVariables false
set_option linter.unusedSimpArgs false
def vlB (s : ByteArray) : Bool := strE s || nmB s
set_option maxRecDepth 100000 in
theorem lvalue_any (s : ByteArray) (w : World) (hs : s.size ≤ maxLen) : Calls Tryz.prog 92 #[.string s] w fun e w' => e = .returned (.bool (vlB s)) ∧ Below w.heap.size w w' := by
  refine px_plain (args := [.string s]) (callTab [(7, .v (.bool (nmB s)))]) (litIn []) 9 Tryz.func92 (by kernel_rfl) (by kernel_rfl) (by simp)
    [.call 48 [.v (.string s)] (.v (.bool (nmB s)))] [] [.v (.bool (vlB s))] (by kernel_rfl) (fun p hp => by cases hp) ?_ (fun ρ w' hb => ⟨rfl, hb⟩)
  exact paid2_cons (fun ρ _ w1 hb => (lname_any s w1 hs).mono fun e w' ⟨h1, h2⟩ => ⟨h1, h2 ▸ Below.refl _ _⟩) paid2_nil
def lrAt (l : List Lab) (k : Nat) (h : k < l.length) : Bool := !((!(nmB l[k].key) || !(vlB l[k].value)) || (match k, h with | 0, _ => false | j + 1, h => !(lessB (l[j]'(by omega)).key l[j + 1].key)))
def lrOk (l : List Lab) : Bool := decide (∀ k (h : k < l.length), lrAt l k h = true)
def lrB (l : List Lab) : Bool := lrOk l && decide ((l.length : Int) ≤ 8)
def lrHyp (P : Program) (agg : BinOp → TypeId → Array Value → Array Value → Option Value) (w : World) (A : Option Addr) (n c : Nat) (ok : Bool) : Hyp :=
  ⟨⟨P, [], agg, fun _ => none, 41, litIn []⟩, w, fun _ => True, 0, [], fun id => match Nat.beq id 0 with
    | true => some fun _ => .br ok (.done .normal ⟨mkF [0, 2] [.v (.slice A n c), .v (.bool false)], []⟩) (.done .ret ⟨mkF [2] [.v (.bool false)], []⟩)
    | false => none, litIn [], fun _ => none⟩
theorem lab_sz : (Tryz.prog.info? 124).map (·.size) = some 2 := by kernel_rfl
theorem wfs_max {s : ByteArray} (h : wfs s) : s.size ≤ maxLen := Nat.le_trans h (by decide)
theorem lrOk_no {l : List Lab} (k : Nat) (h : k < l.length) (e : lrAt l k h = false) : lrOk l = false := decide_eq_false fun hh => by rw [hh k h] at e; cases e
theorem hp0 (j : Nat) : decide ((0 : Int) < ((j + 1 : Nat) : Int)) = true := decide_eq_true (by omega)
set_option maxRecDepth 100000 in
theorem lright_any (r : Row Lab) (w : World) (hr : LabsOk w r) : Calls Tryz.prog 72 #[r.v] w fun e w' => e = .returned (.bool (lrB r.l)) ∧ Below w.heap.size w w' := by
  obtain ⟨v, l⟩ := r
  obtain ⟨hS, hrch, hwf⟩ := id hr
  obtain ⟨A, c, e, _⟩ := id hS
  simp only at e hrch hwf
  subst e
  have hl63 : l.length ≤ 140737488355328 := by unfold reachBytes at hrch; omega
  have hL : LoopSpec (lrHyp Tryz.prog aggR w A l.length c (lrOk l)) (fun _ => [7, 0, 5, 6, 2]) (0, .loop (loopBody Tryz.f72 0), [some (.v (.int .i64 0)), some (.v (.slice A l.length c)), some (.v (.slice A l.length c)), some (.v (.int .i64 (l.length : Int))), some (.v (.bool false))], []) := by
    refine px_loop (H := lrHyp Tryz.prog aggR w A l.length c (lrOk l)) (K := .i64) aggR_ok (fun _ _ _ _ h => h) (by kernel_rfl) rfl (fun _ => [7, 0, 5, 6, 2]) (kx := [0, 2]) (kr := [2]) rfl l.length 0 (fun k => ∀ i (h : i < l.length), i < k → lrAt l i h = true) (fun i h hi => absurd hi (Nat.not_lt_zero _)) (fun _ => [.v (.slice A l.length c), .v (.slice A l.length c), .v (.int .i64 (l.length : Int)), .v (.bool false)]) (fun _ => [])
      (fun k => if h : k < l.length then (match k, h with
        | 0, h => some (⟨false, 124, Lab.cells l[0]⟩, match A with | some ad => (ad.block, ad.off) | none => (0, 0))
        | j + 1, h => some (⟨false, 124, Lab.cells (l[j]'(by omega)) ++ Lab.cells l[j + 1]⟩, match A with | some ad => (ad.block, ad.off + j * 2) | none => (0, 0))) else none)
      (fun k => if h : k < l.length then (match k, h with
        | 0, h => callTab [(10, .p 0 0), (14, .v (.bool (nmB l[0].key))), (19, .v (.bool (vlB l[0].value)))]
        | j + 1, h => callTab [(10, .p 0 2), (14, .v (.bool (nmB l[j + 1].key))), (19, .v (.bool (vlB l[j + 1].value))), (29, .p 0 0)]) else callTab [])
      (fun k => litIn (match k with | 0 => [25] | _ + 1 => []))
      (fun k s => match Nat.beq s 8 with | true => some (decide (k < l.length)) | false => none)
      (fun _ _ => rfl) (fun _ _ => rfl) ?_ (Nat.le_refl _) ?_
    · intro k x hx
      split at hx
      · rename_i hk
        obtain ⟨b, o, c', e, hb, hrg⟩ := row_range (r := ⟨.slice A l.length c, l⟩) (s := 2) (by decide) (fun _ => rfl) hr (Nat.lt_of_le_of_lt (Nat.zero_le _) hk)
        simp only [Value.slice.injEq] at e
        obtain ⟨rfl, -, -⟩ := e
        cases k with
        | zero =>
          simp only [Option.some.injEq] at hx
          subst hx
          exact ⟨rfl, hb, by have := elem_range (f := Lab.cells) (s := 2) (fun _ => rfl) hrg 0 hk; rw [Nat.zero_mul, Nat.add_zero] at this; exact this⟩
        | succ j =>
          simp only [Option.some.injEq] at hx
          subst hx
          exact ⟨rfl, hb, two_range (f := Lab.cells) (s := 2) (fun _ => rfl) hrg j hk⟩
      · cases hx
    · intro k hk hJ
      by_cases hkn : k < l.length
      · obtain ⟨b, o, c', e, hb, hrg⟩ := row_range (r := ⟨.slice A l.length c, l⟩) (s := 2) (by decide) (fun _ => rfl) hr (Nat.lt_of_le_of_lt (Nat.zero_le _) hkn)
        simp only [Value.slice.injEq] at e
        obtain ⟨rfl, -, -⟩ := e
        have hw := hwf _ (List.getElem_mem hkn)
        cases k with
        | zero =>
          rw [dif_pos hkn, dif_pos hkn, decide_eq_true hkn]
          refine ⟨.br ((!(nmB l[0].key) || !(vlB l[0].value)) || false) (.ret [some (.v (.bool false))] []) (.norm [some (.v (.int .i64 (IntKind.i64.wrap (((0 : Nat) : Int) + 1)))), some (.v (.slice (some ⟨b, o, none⟩) l.length c)), some (.v (.slice (some ⟨b, o, none⟩) l.length c)), some (.v (.int .i64 (l.length : Int))), some (.v (.bool false))] []),
            ⟨[.op (fun ρ => do pure (.value (← Instr.indexAt 38 (.slice (some ⟨b, o, none⟩) l.length c) (.int .i64 ((0 : Nat) : Int))))) (.p 0 0), .call 48 [.v (.string l[0].key)] (.v (.bool (nmB l[0].key))), .call 92 [.v (.string l[0].value)] (.v (.bool (vlB l[0].value)))], [], [(decide (((0 : Nat) : Int) < (l.length : Int)), true)]⟩, by kernel_rfl, ⟨?_, ?_, ?_⟩, ?_⟩
          · refine paid2_cons (paid_index (s := 2) (by kernel_rfl) lab_sz hkn fun ρ hX => ?_) (paid2_cons (fun ρ _ w1 hb => (lname_any _ w1 (wfs_max hw.1)).mono fun e w' ⟨h1, h2⟩ => ⟨h1, h2 ▸ Below.refl _ _⟩) (paid2_cons (fun ρ _ w1 hb => (lvalue_any _ w1 (wfs_max hw.2)).mono fun e w' h => h) paid2_nil))
            rw [hX.2 _ rfl]
            exact ⟨rfl, by simp⟩
          · exact fun q hq => by cases hq
          · exact fun p hp => by rw [List.mem_singleton.1 hp]; exact decide_eq_true (Int.ofNat_lt.2 hkn)
          · refine ⟨fun hb => ⟨[.v (.bool false)], rfl, rfl, fun Q hQ => ?_⟩, fun hb => ⟨hkn, ?_, ?_, rfl⟩⟩
            · refine hQ.2 (lrOk_no 0 hkn ?_)
              show (!((!(nmB l[0].key) || !(vlB l[0].value)) || false)) = false
              rw [hb]
              rfl
            · refine fun i h hi => ?_
              have : i = 0 := by omega
              subst this
              unfold lrAt
              simpa using hb
            · rw [wrap_add 0 (by omega)]
              rfl
        | succ j =>
          rw [dif_pos hkn, dif_pos hkn, decide_eq_true hkn]
          refine ⟨.br ((!(nmB l[j + 1].key) || !(vlB l[j + 1].value)) || (decide ((0 : Int) < ((j + 1 : Nat) : Int)) && !(lessB l[j].key l[j + 1].key))) (.ret [some (.v (.bool false))] []) (.norm [some (.v (.int .i64 (IntKind.i64.wrap (((j + 1 : Nat) : Int) + 1)))), some (.v (.slice (some ⟨b, o, none⟩) l.length c)), some (.v (.slice (some ⟨b, o, none⟩) l.length c)), some (.v (.int .i64 (l.length : Int))), some (.v (.bool false))] []),
            ⟨[.op (fun ρ => do pure (.value (← Instr.indexAt 38 (.slice (some ⟨b, o, none⟩) l.length c) (.int .i64 ((j + 1 : Nat) : Int))))) (.p 0 2), .call 48 [.v (.string l[j + 1].key)] (.v (.bool (nmB l[j + 1].key))), .call 92 [.v (.string l[j + 1].value)] (.v (.bool (vlB l[j + 1].value))),
              .op (fun ρ => do pure (.value (← Instr.indexAt 38 (.slice (some ⟨b, o, none⟩) l.length c) (.int .i64 (IntKind.i64.wrap (((j + 1 : Nat) : Int) - 1)))))) (.p 0 0)], [], [(decide (((j + 1 : Nat) : Int) < (l.length : Int)), true)]⟩, by kernel_rfl, ⟨?_, ?_, ?_⟩, ?_⟩
          · refine paid2_cons (paid_index (s := 2) (by kernel_rfl) lab_sz hkn fun ρ hX => ?_) (paid2_cons (fun ρ _ w1 hb => (lname_any _ w1 (wfs_max hw.1)).mono fun e w' ⟨h1, h2⟩ => ⟨h1, h2 ▸ Below.refl _ _⟩) (paid2_cons (fun ρ _ w1 hb => (lvalue_any _ w1 (wfs_max hw.2)).mono fun e w' h => h) (paid2_cons ?_ paid2_nil)))
            · rw [hX.2 _ rfl]
              exact ⟨rfl, by simp only [Nat.succ_mul]; omega⟩
            · rw [wrap_sub j (by omega)]
              refine paid_index (s := 2) (by kernel_rfl) lab_sz (Nat.lt_of_succ_lt hkn) fun ρ hX => ?_
              rw [hX.2 _ rfl]
              exact ⟨rfl, rfl⟩
          · exact fun q hq => by cases hq
          · exact fun p hp => by rw [List.mem_singleton.1 hp]; exact decide_eq_true (Int.ofNat_lt.2 hkn)
          · refine ⟨fun hb => ⟨[.v (.bool false)], rfl, rfl, fun Q hQ => ?_⟩, fun hb => ⟨hkn, ?_, ?_, rfl⟩⟩
            · refine hQ.2 (lrOk_no (j + 1) hkn ?_)
              unfold lrAt
              rw [hp0 j, Bool.true_and] at hb
              rw [hb]
              rfl
            · refine fun i h hi => ?_
              rcases Nat.lt_or_eq_of_le (Nat.le_of_lt_succ hi) with h1 | h1
              · exact hJ i h h1
              · subst h1
                unfold lrAt
                rw [hp0 j, Bool.true_and] at hb
                rw [hb]
                rfl
            · rw [wrap_add (j + 1) (by omega)]
              rfl
      · have : k = l.length := by omega
        subst this
        rw [dif_neg hkn, dif_neg hkn, decide_eq_false hkn]
        refine ⟨.exit [some (.v (.slice A l.length c)), some (.v (.bool false))] [], ⟨[], [], [(decide ((l.length : Int) < (l.length : Int)), false)]⟩, by kernel_rfl, ⟨fun x hx => (by cases hx), fun x hx => (by cases hx), fun p hp => by rw [List.mem_singleton.1 hp]; simp⟩, [.v (.slice A l.length c), .v (.bool false)], rfl, rfl, fun Q hQ => ?_⟩
        exact hQ.1 (decide_eq_true fun i h => hJ i h h)
  refine px_calls (f := 72) (fn := Tryz.f72) (args := [.v (.slice A l.length c)]) (B := []) (ρ0 := fun _ => (0, 0)) (H := lrHyp Tryz.prog aggR w A l.length c (lrOk l)) aggR_ok (fun _ _ _ _ h => h) (by kernel_rfl) Tryz.func72 rfl (by kernel_rfl) (by show (1 : Nat) ≤ 41; decide) rfl (by simp [SV.lt]) trivial (Nat.le_refl _) (fun i b hb => by simp at hb) (fun _ => [7, 0, 5, 6, 2])
    ⟨[], [(0, .loop (loopBody Tryz.f72 0), [some (.v (.int .i64 0)), some (.v (.slice A l.length c)), some (.v (.slice A l.length c)), some (.v (.int .i64 (l.length : Int))), some (.v (.bool false))], [])], []⟩ [.v (.bool (lrB l))] (by kernel_rfl) ⟨fun x hx => (by cases hx), fun q hq => by rw [List.mem_singleton.1 hq]; exact hL, fun p hp => (by cases hp)⟩ (fun ρ w' _ hb => ⟨rfl, hb⟩)
end Go.Proofs.YtlhaiflebigdlaaGreat
end
section
namespace Go.Proofs.YtlhaiflebigdlaaGreat
open Go.RowKit Go.Proofs.Mem
set_option linter.unusedVariables false
set_option linter.unusedSimpArgs false
def idxHyp (P : Program) (agg : BinOp → TypeId → Array Value → Array Value → Option Value) (w : World) (i : Int) (found : Bool) : Hyp :=
  ⟨⟨P, [], agg, fun _ => none, 19, litIn []⟩, w, fun _ => True, 0, [], fun id => match Nat.beq id 0 with
    | true => some fun _ => .br found (.done .ret ⟨mkF [4] [.v (.int .i64 i)], []⟩) (.done .normal ⟨[], []⟩)
    | false => none, litIn [], fun _ => none⟩
def idxI {α : Type} (l : List α) (p : α → Bool) : Value := pickV (l.any p) (.int .i64 (l.findIdx p : Int)) (.int .i64 (-1))
theorem any_at {α : Type} {l : List α} {p : α → Bool} (k : Nat) (h : k < l.length) (e : p l[k] = true) : l.any p = true := List.any_eq_true.2 ⟨_, List.getElem_mem h, e⟩
theorem any_none {α : Type} {l : List α} {p : α → Bool} (h : ∀ i (h : i < l.length), i < l.length → p l[i] = false) : l.any p = false := by
  cases e : l.any p with
  | false => rfl
  | true =>
    obtain ⟨x, hx, hp⟩ := List.any_eq_true.1 e
    obtain ⟨i, hi, rfl⟩ := List.getElem_of_mem hx
    rw [h i hi hi] at hp
    cases hp
theorem find_at {α : Type} {l : List α} {p : α → Bool} (k : Nat) (h : k < l.length) (e : p l[k] = true) (hl : ∀ i (h : i < l.length), i < k → p l[i] = false) : l.findIdx p = k := by
  rw [List.findIdx_eq h]
  exact ⟨e, fun j hj => hl j (by omega) hj⟩
theorem den_cap {ρ : Nat → Nat × Nat} (x : Value) (cap : List Value) : (([SV.v x] ++ cap.map SV.v).map (SV.den ρ)).toArray = #[x] ++ cap.toArray := by
  apply Array.toList_inj.1
  simp [List.map_map, Function.comp_def, SV.den]
theorem sz_req : (Tryz.prog.info? 127).map (·.size) = some 3 := by kernel_rfl
set_option maxRecDepth 100000 in
theorem index_req (r : Row Req) (cap : List Value) (p : Req → Bool) (w : World) {bytes : Nat} {q : Req → Prop} (hr : r.Ok w 3 bytes Req.cells q) (hl : r.l.length ≤ 140737488355328)
    (hcall : ∀ k (h : k < r.l.length) w', Below w.heap.size w w' → Calls Tryz.prog 104 (#[.agg (Req.cells r.l[k]).toArray] ++ cap.toArray) w' fun e w'' => e = .returned (.bool (p r.l[k])) ∧ Below w'.heap.size w' w'') :
    Calls Tryz.prog 109 #[r.v, .func (.func 104) #[] cap.toArray] w fun e w' => e = .returned (idxI r.l p) ∧ Below w.heap.size w w' := by
  obtain ⟨v, l⟩ := r
  obtain ⟨hS, hrch, hwf⟩ := id hr
  obtain ⟨A, c, e, _⟩ := id hS
  simp only at e hl hcall
  subst e
  have hL : LoopSpec (idxHyp Tryz.prog aggR w (l.findIdx p : Int) (l.any p)) (fun _ => [8, 0, 1, 6, 7]) (0, .loop (loopBody Tryz.f109 0), [some (.v (.int .i64 0)), some (.v (.slice A l.length c)), some (.v (.func (.func 104) #[] cap.toArray)), some (.v (.slice A l.length c)), some (.v (.int .i64 (l.length : Int)))], []) := by
    refine px_loop (H := idxHyp Tryz.prog aggR w (l.findIdx p : Int) (l.any p)) (K := .i64) aggR_ok (fun _ _ _ _ h => h) (by kernel_rfl) rfl (fun _ => [8, 0, 1, 6, 7]) (kx := []) (kr := [4]) rfl l.length 0 (fun k => ∀ i (h : i < l.length), i < k → p l[i] = false) (fun i h hi => absurd hi (Nat.not_lt_zero _)) (fun _ => [.v (.slice A l.length c), .v (.func (.func 104) #[] cap.toArray), .v (.slice A l.length c), .v (.int .i64 (l.length : Int))]) (fun _ => [])
      (fun k => if h : k < l.length then some (⟨false, 127, Req.cells l[k]⟩, match A with | some ad => (ad.block, ad.off + k * 3) | none => (0, 0)) else none)
      (fun k => if h : k < l.length then callTab [(14, .p 0 0), (16, .v (.bool (p l[k])))] else callTab [])
      (fun _ => litIn []) (fun k s => match Nat.beq s 9 with | true => some (decide (k < l.length)) | false => none)
      (fun _ _ => rfl) (fun _ _ => rfl) ?_ (Nat.le_refl _) ?_
    · intro k x hx
      split at hx
      · rename_i hk
        obtain ⟨b, o, c', e, hb, hrg⟩ := row_range (r := ⟨.slice A l.length c, l⟩) (s := 3) (by decide) (fun _ => rfl) hr (Nat.lt_of_le_of_lt (Nat.zero_le _) hk)
        simp only [Value.slice.injEq] at e
        obtain ⟨rfl, -, -⟩ := e
        simp only [Option.some.injEq] at hx
        subst hx
        exact ⟨rfl, hb, elem_range (f := Req.cells) (s := 3) (fun _ => rfl) hrg k hk⟩
      · cases hx
    · intro k hk hJ
      by_cases hkn : k < l.length
      · obtain ⟨b, o, c', e, hb, hrg⟩ := row_range (r := ⟨.slice A l.length c, l⟩) (s := 3) (by decide) (fun _ => rfl) hr (Nat.lt_of_le_of_lt (Nat.zero_le _) hkn)
        simp only [Value.slice.injEq] at e
        obtain ⟨rfl, -, -⟩ := e
        rw [dif_pos hkn, dif_pos hkn, decide_eq_true hkn]
        refine ⟨.br (p l[k]) (.ret [some (.v (.int .i64 (k : Int)))] []) (.norm [some (.v (.int .i64 (IntKind.i64.wrap ((k : Int) + 1)))), some (.v (.slice (some ⟨b, o, none⟩) l.length c)), some (.v (.func (.func 104) #[] cap.toArray)), some (.v (.slice (some ⟨b, o, none⟩) l.length c)), some (.v (.int .i64 (l.length : Int)))] []),
          ⟨[.op (fun ρ => do pure (.value (← Instr.indexAt 39 (.slice (some ⟨b, o, none⟩) l.length c) (.int .i64 (k : Int))))) (.p 0 0), .call 104 ([.v (.agg (Req.cells l[k]).toArray)] ++ cap.map .v) (.v (.bool (p l[k])))], [], [(decide ((k : Int) < (l.length : Int)), true)]⟩, by kernel_rfl, ⟨?_, ?_, ?_⟩, ?_⟩
        · refine paid2_cons (paid_index (s := 3) (by kernel_rfl) sz_req hkn fun ρ hX => ?_) (paid2_cons (fun ρ _ w1 hb => ?_) paid2_nil)
          · rw [hX.2 _ rfl]
            exact ⟨rfl, rfl⟩
          · rw [den_cap]
            exact hcall k hkn w1 hb
        · exact fun q hq => by cases hq
        · exact fun p hp => by rw [List.mem_singleton.1 hp]; exact decide_eq_true (Int.ofNat_lt.2 hkn)
        · refine ⟨fun hb => ⟨[.v (.int .i64 (k : Int))], rfl, rfl, fun Q hQ => ?_⟩, fun hb => ⟨hkn, ?_, ?_, rfl⟩⟩
          · have := hQ.1 (any_at k hkn hb)
            rw [find_at k hkn hb hJ] at this
            exact this
          · refine fun i h hi => ?_
            rcases Nat.lt_or_eq_of_le (Nat.le_of_lt_succ hi) with h1 | h1
            · exact hJ i h h1
            · subst h1; exact hb
          · rw [wrap_add k (by omega)]
            rfl
      · have : k = l.length := by omega
        subst this
        rw [dif_neg hkn, dif_neg hkn, decide_eq_false hkn]
        refine ⟨.exit [] [], ⟨[], [], [(decide ((l.length : Int) < (l.length : Int)), false)]⟩, by kernel_rfl, ⟨fun x hx => (by cases hx), fun x hx => (by cases hx), fun p hp => by rw [List.mem_singleton.1 hp]; simp⟩, [], rfl, rfl, fun Q hQ => ?_⟩
        exact hQ.2 (any_none hJ)
  refine px_calls (f := 109) (fn := Tryz.f109) (args := [.v (.slice A l.length c), .v (.func (.func 104) #[] cap.toArray)]) (B := []) (ρ0 := fun _ => (0, 0)) (H := idxHyp Tryz.prog aggR w (l.findIdx p : Int) (l.any p)) aggR_ok (fun _ _ _ _ h => h) (by kernel_rfl) Tryz.func109 rfl (by kernel_rfl) (by show (2 : Nat) ≤ 19; decide) rfl (by simp [SV.lt]) trivial (Nat.le_refl _) (fun i b hb => by simp at hb) (fun _ => [8, 0, 1, 6, 7])
    ⟨[], [(0, .loop (loopBody Tryz.f109 0), [some (.v (.int .i64 0)), some (.v (.slice A l.length c)), some (.v (.func (.func 104) #[] cap.toArray)), some (.v (.slice A l.length c)), some (.v (.int .i64 (l.length : Int)))], [])], []⟩ [.v (idxI l p)] (by kernel_rfl) ⟨fun x hx => (by cases hx), fun q hq => by rw [List.mem_singleton.1 hq]; exact hL, fun p hp => (by cases hp)⟩ (fun ρ w' _ hb => ⟨rfl, hb⟩)
set_option maxRecDepth 100000 in
theorem contains_req (r : Row Req) (cap : List Value) (p : Req → Bool) (w : World) {bytes : Nat} {q : Req → Prop} (hr : r.Ok w 3 bytes Req.cells q) (hl : r.l.length ≤ 140737488355328)
    (hcall : ∀ k (h : k < r.l.length) w', Below w.heap.size w w' → Calls Tryz.prog 104 (#[.agg (Req.cells r.l[k]).toArray] ++ cap.toArray) w' fun e w'' => e = .returned (.bool (p r.l[k])) ∧ Below w'.heap.size w' w'') :
    Calls Tryz.prog 103 #[r.v, .func (.func 104) #[] cap.toArray] w fun e w' => e = .returned (.bool (r.l.any p)) ∧ Below w.heap.size w w' := by
  have hi := fun (w1 : World) (hb : Below w.heap.size w w1) => index_req r cap p w1 (hr.below hb) hl fun k h w' hb' => hcall k h w' (hb.trans (hb'.mono hb.size))
  cases e : r.l.any p with
  | true =>
    refine px_plain (args := [r.v, .func (.func 104) #[] cap.toArray]) (callTab [(7, .v (.int .i64 (r.l.findIdx p : Int)))]) (litIn []) 9 Tryz.func103 (by kernel_rfl) (by kernel_rfl) (by simp)
      [.call 109 [.v r.v, .v (.func (.func 104) #[] cap.toArray)] (.v (.int .i64 (r.l.findIdx p : Int)))] [] [.v (.bool (decide (0 ≤ (r.l.findIdx p : Int))))] (by kernel_rfl) (fun p hp => by cases hp) ?_ (fun ρ w' hb => ⟨by rw [decide_eq_true (Int.natCast_nonneg _)]; rfl, hb⟩)
    exact paid2_cons (fun ρ _ w1 hb => (hi w1 hb).mono fun e' w' ⟨h1, h2⟩ => ⟨by rw [h1]; unfold idxI; rw [e]; rfl, h2⟩) paid2_nil
  | false =>
    refine px_plain (args := [r.v, .func (.func 104) #[] cap.toArray]) (callTab [(7, .v (.int .i64 (-1)))]) (litIn []) 9 Tryz.func103 (by kernel_rfl) (by kernel_rfl) (by simp)
      [.call 109 [.v r.v, .v (.func (.func 104) #[] cap.toArray)] (.v (.int .i64 (-1)))] [] [.v (.bool false)] (by kernel_rfl) (fun p hp => by cases hp) ?_ (fun ρ w' hb => ⟨rfl, hb⟩)
    exact paid2_cons (fun ρ _ w1 hb => (hi w1 hb).mono fun e' w' ⟨h1, h2⟩ => ⟨by rw [h1]; unfold idxI; rw [e]; rfl, h2⟩) paid2_nil
theorem sz_met : (Tryz.prog.info? 103).map (·.size) = some 3 := by kernel_rfl
set_option maxRecDepth 100000 in
theorem index_met (r : Row Met) (cap : List Value) (p : Met → Bool) (w : World) {bytes : Nat} {q : Met → Prop} (hr : r.Ok w 3 bytes Met.cells q) (hl : r.l.length ≤ 140737488355328)
    (hcall : ∀ k (h : k < r.l.length) w', Below w.heap.size w w' → Calls Tryz.prog 94 (#[.agg (Met.cells r.l[k]).toArray] ++ cap.toArray) w' fun e w'' => e = .returned (.bool (p r.l[k])) ∧ Below w'.heap.size w' w'') :
    Calls Tryz.prog 105 #[r.v, .func (.func 94) #[] cap.toArray] w fun e w' => e = .returned (idxI r.l p) ∧ Below w.heap.size w w' := by
  obtain ⟨v, l⟩ := r
  obtain ⟨hS, hrch, hwf⟩ := id hr
  obtain ⟨A, c, e, _⟩ := id hS
  simp only at e hl hcall
  subst e
  have hL : LoopSpec (idxHyp Tryz.prog aggR w (l.findIdx p : Int) (l.any p)) (fun _ => [8, 0, 1, 6, 7]) (0, .loop (loopBody Tryz.f105 0), [some (.v (.int .i64 0)), some (.v (.slice A l.length c)), some (.v (.func (.func 94) #[] cap.toArray)), some (.v (.slice A l.length c)), some (.v (.int .i64 (l.length : Int)))], []) := by
    refine px_loop (H := idxHyp Tryz.prog aggR w (l.findIdx p : Int) (l.any p)) (K := .i64) aggR_ok (fun _ _ _ _ h => h) (by kernel_rfl) rfl (fun _ => [8, 0, 1, 6, 7]) (kx := []) (kr := [4]) rfl l.length 0 (fun k => ∀ i (h : i < l.length), i < k → p l[i] = false) (fun i h hi => absurd hi (Nat.not_lt_zero _)) (fun _ => [.v (.slice A l.length c), .v (.func (.func 94) #[] cap.toArray), .v (.slice A l.length c), .v (.int .i64 (l.length : Int))]) (fun _ => [])
      (fun k => if h : k < l.length then some (⟨false, 103, Met.cells l[k]⟩, match A with | some ad => (ad.block, ad.off + k * 3) | none => (0, 0)) else none)
      (fun k => if h : k < l.length then callTab [(14, .p 0 0), (16, .v (.bool (p l[k])))] else callTab [])
      (fun _ => litIn []) (fun k s => match Nat.beq s 9 with | true => some (decide (k < l.length)) | false => none)
      (fun _ _ => rfl) (fun _ _ => rfl) ?_ (Nat.le_refl _) ?_
    · intro k x hx
      split at hx
      · rename_i hk
        obtain ⟨b, o, c', e, hb, hrg⟩ := row_range (r := ⟨.slice A l.length c, l⟩) (s := 3) (by decide) (fun _ => rfl) hr (Nat.lt_of_le_of_lt (Nat.zero_le _) hk)
        simp only [Value.slice.injEq] at e
        obtain ⟨rfl, -, -⟩ := e
        simp only [Option.some.injEq] at hx
        subst hx
        exact ⟨rfl, hb, elem_range (f := Met.cells) (s := 3) (fun _ => rfl) hrg k hk⟩
      · cases hx
    · intro k hk hJ
      by_cases hkn : k < l.length
      · obtain ⟨b, o, c', e, hb, hrg⟩ := row_range (r := ⟨.slice A l.length c, l⟩) (s := 3) (by decide) (fun _ => rfl) hr (Nat.lt_of_le_of_lt (Nat.zero_le _) hkn)
        simp only [Value.slice.injEq] at e
        obtain ⟨rfl, -, -⟩ := e
        rw [dif_pos hkn, dif_pos hkn, decide_eq_true hkn]
        refine ⟨.br (p l[k]) (.ret [some (.v (.int .i64 (k : Int)))] []) (.norm [some (.v (.int .i64 (IntKind.i64.wrap ((k : Int) + 1)))), some (.v (.slice (some ⟨b, o, none⟩) l.length c)), some (.v (.func (.func 94) #[] cap.toArray)), some (.v (.slice (some ⟨b, o, none⟩) l.length c)), some (.v (.int .i64 (l.length : Int)))] []),
          ⟨[.op (fun ρ => do pure (.value (← Instr.indexAt 48 (.slice (some ⟨b, o, none⟩) l.length c) (.int .i64 (k : Int))))) (.p 0 0), .call 94 ([.v (.agg (Met.cells l[k]).toArray)] ++ cap.map .v) (.v (.bool (p l[k])))], [], [(decide ((k : Int) < (l.length : Int)), true)]⟩, by kernel_rfl, ⟨?_, ?_, ?_⟩, ?_⟩
        · refine paid2_cons (paid_index (s := 3) (by kernel_rfl) sz_met hkn fun ρ hX => ?_) (paid2_cons (fun ρ _ w1 hb => ?_) paid2_nil)
          · rw [hX.2 _ rfl]
            exact ⟨rfl, rfl⟩
          · rw [den_cap]
            exact hcall k hkn w1 hb
        · exact fun q hq => by cases hq
        · exact fun p hp => by rw [List.mem_singleton.1 hp]; exact decide_eq_true (Int.ofNat_lt.2 hkn)
        · refine ⟨fun hb => ⟨[.v (.int .i64 (k : Int))], rfl, rfl, fun Q hQ => ?_⟩, fun hb => ⟨hkn, ?_, ?_, rfl⟩⟩
          · have := hQ.1 (any_at k hkn hb)
            rw [find_at k hkn hb hJ] at this
            exact this
          · refine fun i h hi => ?_
            rcases Nat.lt_or_eq_of_le (Nat.le_of_lt_succ hi) with h1 | h1
            · exact hJ i h h1
            · subst h1; exact hb
          · rw [wrap_add k (by omega)]
            rfl
      · have : k = l.length := by omega
        subst this
        rw [dif_neg hkn, dif_neg hkn, decide_eq_false hkn]
        refine ⟨.exit [] [], ⟨[], [], [(decide ((l.length : Int) < (l.length : Int)), false)]⟩, by kernel_rfl, ⟨fun x hx => (by cases hx), fun x hx => (by cases hx), fun p hp => by rw [List.mem_singleton.1 hp]; simp⟩, [], rfl, rfl, fun Q hQ => ?_⟩
        exact hQ.2 (any_none hJ)
  refine px_calls (f := 105) (fn := Tryz.f105) (args := [.v (.slice A l.length c), .v (.func (.func 94) #[] cap.toArray)]) (B := []) (ρ0 := fun _ => (0, 0)) (H := idxHyp Tryz.prog aggR w (l.findIdx p : Int) (l.any p)) aggR_ok (fun _ _ _ _ h => h) (by kernel_rfl) Tryz.func105 rfl (by kernel_rfl) (by show (2 : Nat) ≤ 19; decide) rfl (by simp [SV.lt]) trivial (Nat.le_refl _) (fun i b hb => by simp at hb) (fun _ => [8, 0, 1, 6, 7])
    ⟨[], [(0, .loop (loopBody Tryz.f105 0), [some (.v (.int .i64 0)), some (.v (.slice A l.length c)), some (.v (.func (.func 94) #[] cap.toArray)), some (.v (.slice A l.length c)), some (.v (.int .i64 (l.length : Int)))], [])], []⟩ [.v (idxI l p)] (by kernel_rfl) ⟨fun x hx => (by cases hx), fun q hq => by rw [List.mem_singleton.1 hq]; exact hL, fun p hp => (by cases hp)⟩ (fun ρ w' _ hb => ⟨rfl, hb⟩)
set_option maxRecDepth 100000 in
theorem contains_met (r : Row Met) (cap : List Value) (p : Met → Bool) (w : World) {bytes : Nat} {q : Met → Prop} (hr : r.Ok w 3 bytes Met.cells q) (hl : r.l.length ≤ 140737488355328)
    (hcall : ∀ k (h : k < r.l.length) w', Below w.heap.size w w' → Calls Tryz.prog 94 (#[.agg (Met.cells r.l[k]).toArray] ++ cap.toArray) w' fun e w'' => e = .returned (.bool (p r.l[k])) ∧ Below w'.heap.size w' w'') :
    Calls Tryz.prog 93 #[r.v, .func (.func 94) #[] cap.toArray] w fun e w' => e = .returned (.bool (r.l.any p)) ∧ Below w.heap.size w w' := by
  have hi := fun (w1 : World) (hb : Below w.heap.size w w1) => index_met r cap p w1 (hr.below hb) hl fun k h w' hb' => hcall k h w' (hb.trans (hb'.mono hb.size))
  cases e : r.l.any p with
  | true =>
    refine px_plain (args := [r.v, .func (.func 94) #[] cap.toArray]) (callTab [(7, .v (.int .i64 (r.l.findIdx p : Int)))]) (litIn []) 9 Tryz.func93 (by kernel_rfl) (by kernel_rfl) (by simp)
      [.call 105 [.v r.v, .v (.func (.func 94) #[] cap.toArray)] (.v (.int .i64 (r.l.findIdx p : Int)))] [] [.v (.bool (decide (0 ≤ (r.l.findIdx p : Int))))] (by kernel_rfl) (fun p hp => by cases hp) ?_ (fun ρ w' hb => ⟨by rw [decide_eq_true (Int.natCast_nonneg _)]; rfl, hb⟩)
    exact paid2_cons (fun ρ _ w1 hb => (hi w1 hb).mono fun e' w' ⟨h1, h2⟩ => ⟨by rw [h1]; unfold idxI; rw [e]; rfl, h2⟩) paid2_nil
  | false =>
    refine px_plain (args := [r.v, .func (.func 94) #[] cap.toArray]) (callTab [(7, .v (.int .i64 (-1)))]) (litIn []) 9 Tryz.func93 (by kernel_rfl) (by kernel_rfl) (by simp)
      [.call 105 [.v r.v, .v (.func (.func 94) #[] cap.toArray)] (.v (.int .i64 (-1)))] [] [.v (.bool false)] (by kernel_rfl) (fun p hp => by cases hp) ?_ (fun ρ w' hb => ⟨rfl, hb⟩)
    exact paid2_cons (fun ρ _ w1 hb => (hi w1 hb).mono fun e' w' ⟨h1, h2⟩ => ⟨by rw [h1]; unfold idxI; rw [e]; rfl, h2⟩) paid2_nil
theorem sz_pol : (Tryz.prog.info? 131).map (·.size) = some 3 := by kernel_rfl
set_option maxRecDepth 100000 in
theorem index_pol (r : Row Pol) (cap : List Value) (p : Pol → Bool) (w : World) {bytes : Nat} {q : Pol → Prop} (hr : r.Ok w 3 bytes Pol.cells q) (hl : r.l.length ≤ 140737488355328)
    (hcall : ∀ k (h : k < r.l.length) w', Below w.heap.size w w' → Calls Tryz.prog 107 (#[.agg (Pol.cells r.l[k]).toArray] ++ cap.toArray) w' fun e w'' => e = .returned (.bool (p r.l[k])) ∧ Below w'.heap.size w' w'') :
    Calls Tryz.prog 110 #[r.v, .func (.func 107) #[] cap.toArray] w fun e w' => e = .returned (idxI r.l p) ∧ Below w.heap.size w w' := by
  obtain ⟨v, l⟩ := r
  obtain ⟨hS, hrch, hwf⟩ := id hr
  obtain ⟨A, c, e, _⟩ := id hS
  simp only at e hl hcall
  subst e
  have hL : LoopSpec (idxHyp Tryz.prog aggR w (l.findIdx p : Int) (l.any p)) (fun _ => [8, 0, 1, 6, 7]) (0, .loop (loopBody Tryz.f110 0), [some (.v (.int .i64 0)), some (.v (.slice A l.length c)), some (.v (.func (.func 107) #[] cap.toArray)), some (.v (.slice A l.length c)), some (.v (.int .i64 (l.length : Int)))], []) := by
    refine px_loop (H := idxHyp Tryz.prog aggR w (l.findIdx p : Int) (l.any p)) (K := .i64) aggR_ok (fun _ _ _ _ h => h) (by kernel_rfl) rfl (fun _ => [8, 0, 1, 6, 7]) (kx := []) (kr := [4]) rfl l.length 0 (fun k => ∀ i (h : i < l.length), i < k → p l[i] = false) (fun i h hi => absurd hi (Nat.not_lt_zero _)) (fun _ => [.v (.slice A l.length c), .v (.func (.func 107) #[] cap.toArray), .v (.slice A l.length c), .v (.int .i64 (l.length : Int))]) (fun _ => [])
      (fun k => if h : k < l.length then some (⟨false, 131, Pol.cells l[k]⟩, match A with | some ad => (ad.block, ad.off + k * 3) | none => (0, 0)) else none)
      (fun k => if h : k < l.length then callTab [(14, .p 0 0), (16, .v (.bool (p l[k])))] else callTab [])
      (fun _ => litIn []) (fun k s => match Nat.beq s 9 with | true => some (decide (k < l.length)) | false => none)
      (fun _ _ => rfl) (fun _ _ => rfl) ?_ (Nat.le_refl _) ?_
    · intro k x hx
      split at hx
      · rename_i hk
        obtain ⟨b, o, c', e, hb, hrg⟩ := row_range (r := ⟨.slice A l.length c, l⟩) (s := 3) (by decide) (fun _ => rfl) hr (Nat.lt_of_le_of_lt (Nat.zero_le _) hk)
        simp only [Value.slice.injEq] at e
        obtain ⟨rfl, -, -⟩ := e
        simp only [Option.some.injEq] at hx
        subst hx
        exact ⟨rfl, hb, elem_range (f := Pol.cells) (s := 3) (fun _ => rfl) hrg k hk⟩
      · cases hx
    · intro k hk hJ
      by_cases hkn : k < l.length
      · obtain ⟨b, o, c', e, hb, hrg⟩ := row_range (r := ⟨.slice A l.length c, l⟩) (s := 3) (by decide) (fun _ => rfl) hr (Nat.lt_of_le_of_lt (Nat.zero_le _) hkn)
        simp only [Value.slice.injEq] at e
        obtain ⟨rfl, -, -⟩ := e
        rw [dif_pos hkn, dif_pos hkn, decide_eq_true hkn]
        refine ⟨.br (p l[k]) (.ret [some (.v (.int .i64 (k : Int)))] []) (.norm [some (.v (.int .i64 (IntKind.i64.wrap ((k : Int) + 1)))), some (.v (.slice (some ⟨b, o, none⟩) l.length c)), some (.v (.func (.func 107) #[] cap.toArray)), some (.v (.slice (some ⟨b, o, none⟩) l.length c)), some (.v (.int .i64 (l.length : Int)))] []),
          ⟨[.op (fun ρ => do pure (.value (← Instr.indexAt 49 (.slice (some ⟨b, o, none⟩) l.length c) (.int .i64 (k : Int))))) (.p 0 0), .call 107 ([.v (.agg (Pol.cells l[k]).toArray)] ++ cap.map .v) (.v (.bool (p l[k])))], [], [(decide ((k : Int) < (l.length : Int)), true)]⟩, by kernel_rfl, ⟨?_, ?_, ?_⟩, ?_⟩
        · refine paid2_cons (paid_index (s := 3) (by kernel_rfl) sz_pol hkn fun ρ hX => ?_) (paid2_cons (fun ρ _ w1 hb => ?_) paid2_nil)
          · rw [hX.2 _ rfl]
            exact ⟨rfl, rfl⟩
          · rw [den_cap]
            exact hcall k hkn w1 hb
        · exact fun q hq => by cases hq
        · exact fun p hp => by rw [List.mem_singleton.1 hp]; exact decide_eq_true (Int.ofNat_lt.2 hkn)
        · refine ⟨fun hb => ⟨[.v (.int .i64 (k : Int))], rfl, rfl, fun Q hQ => ?_⟩, fun hb => ⟨hkn, ?_, ?_, rfl⟩⟩
          · have := hQ.1 (any_at k hkn hb)
            rw [find_at k hkn hb hJ] at this
            exact this
          · refine fun i h hi => ?_
            rcases Nat.lt_or_eq_of_le (Nat.le_of_lt_succ hi) with h1 | h1
            · exact hJ i h h1
            · subst h1; exact hb
          · rw [wrap_add k (by omega)]
            rfl
      · have : k = l.length := by omega
        subst this
        rw [dif_neg hkn, dif_neg hkn, decide_eq_false hkn]
        refine ⟨.exit [] [], ⟨[], [], [(decide ((l.length : Int) < (l.length : Int)), false)]⟩, by kernel_rfl, ⟨fun x hx => (by cases hx), fun x hx => (by cases hx), fun p hp => by rw [List.mem_singleton.1 hp]; simp⟩, [], rfl, rfl, fun Q hQ => ?_⟩
        exact hQ.2 (any_none hJ)
  refine px_calls (f := 110) (fn := Tryz.f110) (args := [.v (.slice A l.length c), .v (.func (.func 107) #[] cap.toArray)]) (B := []) (ρ0 := fun _ => (0, 0)) (H := idxHyp Tryz.prog aggR w (l.findIdx p : Int) (l.any p)) aggR_ok (fun _ _ _ _ h => h) (by kernel_rfl) Tryz.func110 rfl (by kernel_rfl) (by show (2 : Nat) ≤ 19; decide) rfl (by simp [SV.lt]) trivial (Nat.le_refl _) (fun i b hb => by simp at hb) (fun _ => [8, 0, 1, 6, 7])
    ⟨[], [(0, .loop (loopBody Tryz.f110 0), [some (.v (.int .i64 0)), some (.v (.slice A l.length c)), some (.v (.func (.func 107) #[] cap.toArray)), some (.v (.slice A l.length c)), some (.v (.int .i64 (l.length : Int)))], [])], []⟩ [.v (idxI l p)] (by kernel_rfl) ⟨fun x hx => (by cases hx), fun q hq => by rw [List.mem_singleton.1 hq]; exact hL, fun p hp => (by cases hp)⟩ (fun ρ w' _ hb => ⟨rfl, hb⟩)
set_option maxRecDepth 100000 in
theorem contains_pol (r : Row Pol) (cap : List Value) (p : Pol → Bool) (w : World) {bytes : Nat} {q : Pol → Prop} (hr : r.Ok w 3 bytes Pol.cells q) (hl : r.l.length ≤ 140737488355328)
    (hcall : ∀ k (h : k < r.l.length) w', Below w.heap.size w w' → Calls Tryz.prog 107 (#[.agg (Pol.cells r.l[k]).toArray] ++ cap.toArray) w' fun e w'' => e = .returned (.bool (p r.l[k])) ∧ Below w'.heap.size w' w'') :
    Calls Tryz.prog 106 #[r.v, .func (.func 107) #[] cap.toArray] w fun e w' => e = .returned (.bool (r.l.any p)) ∧ Below w.heap.size w w' := by
  have hi := fun (w1 : World) (hb : Below w.heap.size w w1) => index_pol r cap p w1 (hr.below hb) hl fun k h w' hb' => hcall k h w' (hb.trans (hb'.mono hb.size))
  cases e : r.l.any p with
  | true =>
    refine px_plain (args := [r.v, .func (.func 107) #[] cap.toArray]) (callTab [(7, .v (.int .i64 (r.l.findIdx p : Int)))]) (litIn []) 9 Tryz.func106 (by kernel_rfl) (by kernel_rfl) (by simp)
      [.call 110 [.v r.v, .v (.func (.func 107) #[] cap.toArray)] (.v (.int .i64 (r.l.findIdx p : Int)))] [] [.v (.bool (decide (0 ≤ (r.l.findIdx p : Int))))] (by kernel_rfl) (fun p hp => by cases hp) ?_ (fun ρ w' hb => ⟨by rw [decide_eq_true (Int.natCast_nonneg _)]; rfl, hb⟩)
    exact paid2_cons (fun ρ _ w1 hb => (hi w1 hb).mono fun e' w' ⟨h1, h2⟩ => ⟨by rw [h1]; unfold idxI; rw [e]; rfl, h2⟩) paid2_nil
  | false =>
    refine px_plain (args := [r.v, .func (.func 107) #[] cap.toArray]) (callTab [(7, .v (.int .i64 (-1)))]) (litIn []) 9 Tryz.func106 (by kernel_rfl) (by kernel_rfl) (by simp)
      [.call 110 [.v r.v, .v (.func (.func 107) #[] cap.toArray)] (.v (.int .i64 (-1)))] [] [.v (.bool false)] (by kernel_rfl) (fun p hp => by cases hp) ?_ (fun ρ w' hb => ⟨rfl, hb⟩)
    exact paid2_cons (fun ρ _ w1 hb => (hi w1 hb).mono fun e' w' ⟨h1, h2⟩ => ⟨by rw [h1]; unfold idxI; rw [e]; rfl, h2⟩) paid2_nil
end Go.Proofs.YtlhaiflebigdlaaGreat
end
section
namespace Go.Proofs.YtlhaiflebigdlaaGreat
open Go.RowKit Go.Proofs.Mem
set_option linter.unusedVariables false
set_option linter.unusedSimpArgs false
theorem row_len {α : Type} {r : Row α} {w : World} {s bytes : Nat} {f : α → List Value} {p : α → Prop} (h : r.Ok w s bytes f p) (hb : 8 ≤ bytes) : r.l.length ≤ 140737488355328 := by
  have h1 := h.2.1
  have h2 : r.l.length * 8 ≤ reachBytes := Nat.le_trans (Nat.mul_le_mul_left _ hb) h1
  unfold reachBytes at h2
  omega
def betB (x lo hi : Int) : Bool := decide (lo ≤ x) && decide (x ≤ hi)
def qrB (x : Int) : Bool := betB x 0 9007199254740992
def sizeB (c m : Int) : Bool := (qrB c && qrB m) && decide (0 < c)
def askB (x : Req) : Bool := (((decide (x.op < 0) || decide (3 < x.op)) || !(nmB x.key)) || !(vlB x.value)) || (decide (2 ≤ x.op) && !(strE x.value))
def caksB (l : List Req) : Bool := !(l.any askB) && decide ((l.length : Int) ≤ 8)
def cwantsB (c m : Int) (L : List Lab) (S : List Req) (T : List Lab) (wm : Int) : Bool := (((sizeB c m && lrB L) && caksB S) && lrB T) && betB wm 0 1800
def cworkB (x : Wl) : Bool := betB x.replicas 0 1000000 && cwantsB x.cpu x.mem x.labels.l x.select.l x.tolerate.l x.warm
def cpod1 (x : Pd) : Bool := ((!(nmB x.owner) || !(vlB x.node)) || !(betB x.phase 0 3)) || !(betB x.since 0 4611686018427387904)
def cpod2 (x : Pd) : Bool := ((x.phase == 3) || ((!(strE x.node)) == (!(x.phase == 0)))) && cwantsB x.cpu x.mem x.labels.l x.select.l x.tolerate.l x.warm
def cnodeB (x : Nd) : Bool := (((vlB x.group && sizeB x.cpu x.mem) && lrB x.labels.l) && lrB x.taints.l) && betB x.since 0 4611686018427387904
def cgroupB (x : Gr) : Bool := ((((((decide (0 ≤ x.min) && decide (x.min ≤ x.max)) && decide (x.max ≤ 64)) && betB x.target x.min x.max) && sizeB x.cpu x.mem) && lrB x.labels.l) && lrB x.taints.l) && betB x.priority 0 1000
def cpolB (x : Pol) : Bool := betB x.value 1 1000000 && betB x.period 1 1800
def cmet1 (x : Met) : Bool := ((!(betB x.kind 0 3) || !(nmB x.name)) || !(qrB x.target)) || (x.target == 0)
def isS (s t : ByteArray) : Bool := s.toList == t.toList
def cmet2 (x : Met) : Bool := (!(x.kind == 0) || isS x.name ⟨#[99, 112, 117]⟩) || isS x.name ⟨#[109, 101, 109]⟩
def cnoB (x : Bh) : Bool := ((x.window == 0) && (x.pick == 0)) && ((x.policies.l.length : Int) == 0)
theorem res_not {ρ : Nat → Nat × Nat} (b c : Bool) : resVal ρ [.v (pickV b (.bool false) (.bool c))] = .bool (!b && c) := by cases b <;> cases c <;> rfl
set_option maxRecDepth 100000 in
theorem between_int (x lo hi : Int) (w : World) : Calls Tryz.prog 67 #[.int .i64 (x), .int .i64 (lo), .int .i64 (hi)] w fun e w' => e = .returned (.bool (betB x lo hi)) ∧ Below w.heap.size w w' := by
  refine px_plain (args := [.int .i64 (x), .int .i64 (lo), .int .i64 (hi)]) (callTab []) (litIn []) 15 Tryz.func67 (by kernel_rfl) (by kernel_rfl) (by simp)
    [] [] [.v (.bool (betB x lo hi))] (by kernel_rfl) (fun p hp => by cases hp) ?_ (fun ρ w' hb => ⟨rfl, hb⟩)
  exact paid2_nil
set_option maxRecDepth 100000 in
theorem between_64 (x lo hi : Int) (w : World) : Calls Tryz.prog 70 #[.int .i64 (x), .int .i64 (lo), .int .i64 (hi)] w fun e w' => e = .returned (.bool (betB x lo hi)) ∧ Below w.heap.size w w' := by
  refine px_plain (args := [.int .i64 (x), .int .i64 (lo), .int .i64 (hi)]) (callTab []) (litIn []) 15 Tryz.func70 (by kernel_rfl) (by kernel_rfl) (by simp)
    [] [] [.v (.bool (betB x lo hi))] (by kernel_rfl) (fun p hp => by cases hp) ?_ (fun ρ w' hb => ⟨rfl, hb⟩)
  exact paid2_nil
set_option maxRecDepth 100000 in
theorem qright_any (x : Int) (w : World) : Calls Tryz.prog 91 #[.int .i64 (x)] w fun e w' => e = .returned (.bool (qrB x)) ∧ Below w.heap.size w w' := by
  refine px_plain (args := [.int .i64 (x)]) (callTab []) (litIn []) 9 Tryz.func91 (by kernel_rfl) (by kernel_rfl) (by simp)
    [] [] [.v (.bool (qrB x))] (by kernel_rfl) (fun p hp => by cases hp) ?_ (fun ρ w' hb => ⟨rfl, hb⟩)
  exact paid2_nil
set_option maxRecDepth 100000 in
theorem vsize_any (c m : Int) (w : World) : Calls Tryz.prog 71 #[.agg #[.int .i64 (c), .int .i64 (m)]] w fun e w' => e = .returned (.bool (sizeB c m)) ∧ Below w.heap.size w w' := by
  refine px_plain (args := [.agg #[.int .i64 (c), .int .i64 (m)]]) (callTab [(5, .v (.bool (qrB (c)))), (9, .v (.bool (qrB (m))))]) (litIn []) 16 Tryz.func71 (by kernel_rfl) (by kernel_rfl) (by simp)
    [.call 91 [.v (.int .i64 (c))] (.v (.bool (qrB (c)))), .call 91 [.v (.int .i64 (m))] (.v (.bool (qrB (m))))] [] [.v (.bool (sizeB c m))] (by kernel_rfl) (fun p hp => by cases hp) ?_ (fun ρ w' hb => ⟨rfl, hb⟩)
  exact paid2_cons (fun ρ _ w1 hb => qright_any _ w1) (paid2_cons (fun ρ _ w1 hb => qright_any _ w1) (paid2_nil))
set_option maxRecDepth 100000 in
theorem vnamed_any (s : ByteArray) (w : World) (hs : wfs s) : Calls Tryz.prog 69 #[.string s] w fun e w' => e = .returned (.bool (vlB s)) ∧ Below w.heap.size w w' := by
  refine px_plain (args := [.string s]) (callTab [(7, .v (.bool (nmB s)))]) (litIn []) 9 Tryz.func69 (by kernel_rfl) (by kernel_rfl) (by simp)
    [.call 48 [.v (.string s)] (.v (.bool (nmB s)))] [] [.v (.bool (vlB s))] (by kernel_rfl) (fun p hp => by cases hp) ?_ (fun ρ w' hb => ⟨rfl, hb⟩)
  exact paid2_cons (fun ρ _ w1 hb => (lname_any _ w1 (wfs_max hs)).mono fun e w' ⟨h1, h2⟩ => ⟨h1, h2 ▸ Below.refl _ _⟩) (paid2_nil)
set_option maxRecDepth 100000 in
theorem lask_any (x : Req) (w : World) (hx : x.Wf) : Calls Tryz.prog 104 #[.agg x.cells.toArray] w fun e w' => e = .returned (.bool (askB x)) ∧ Below w.heap.size w w' := by
  refine px_plain (args := [.agg x.cells.toArray]) (callTab [(14, .v (.bool (nmB x.key))), (20, .v (.bool (vlB x.value)))]) (litIn []) 33 Tryz.func104 (by kernel_rfl) (by kernel_rfl) (by simp)
    [.call 48 [.v (.string x.key)] (.v (.bool (nmB x.key))), .call 92 [.v (.string x.value)] (.v (.bool (vlB x.value)))] [] [.v (.bool (askB x))] (by kernel_rfl) (fun p hp => by cases hp) ?_ (fun ρ w' hb => ⟨rfl, hb⟩)
  exact paid2_cons (fun ρ _ w1 hb => (lname_any _ w1 (wfs_max hx.1)).mono fun e w' ⟨h1, h2⟩ => ⟨h1, h2 ▸ Below.refl _ _⟩) (paid2_cons (fun ρ _ w1 hb => lvalue_any _ w1 (wfs_max hx.2.1)) (paid2_nil))
set_option maxRecDepth 100000 in
theorem lasks_any (r : Row Req) (w : World) (hr : ReqsOk w r) : Calls Tryz.prog 90 #[r.v] w fun e w' => e = .returned (.bool (caksB r.l)) ∧ Below w.heap.size w w' := by
  have hc := fun (w1 : World) (hb : Below w.heap.size w w1) => contains_req r [] askB w1 (hr.below hb) (row_len hr (by decide)) fun k h w' _ => lask_any r.l[k] w' (hr.2.2 _ (List.getElem_mem h))
  obtain ⟨v, l⟩ := r
  obtain ⟨A, c, e, _⟩ := id hr.1
  simp only at e hc
  subst e
  refine px_plain (args := [.slice A l.length c]) (callTab [(5, .v (.bool (l.any askB)))]) (litIn []) 13 Tryz.func90 (by kernel_rfl) (by kernel_rfl) (by simp)
    [.call 103 [.v (.slice A l.length c), .v (.func (.func 104) #[] #[])] (.v (.bool (l.any askB)))] [] [.v (.bool (caksB l))] (by kernel_rfl) (fun p hp => by cases hp) ?_ (fun ρ w' hb => ⟨rfl, hb⟩)
  exact paid2_cons (fun ρ _ w1 hb => hc w1 hb) paid2_nil
set_option maxRecDepth 100000 in
theorem vwants_any (c m : Int) (L : Row Lab) (S : Row Req) (T : Row Lab) (wm : Int) (w : World) (hL : LabsOk w L) (hS : ReqsOk w S) (hT : LabsOk w T) : Calls Tryz.prog 68 #[.agg #[.int .i64 (c), .int .i64 (m)], L.v, S.v, T.v, .int .i64 (wm)] w fun e w' => e = .returned (.bool (cwantsB c m L.l S.l T.l wm)) ∧ Below w.heap.size w w' := by
  refine px_plain (args := [.agg #[.int .i64 (c), .int .i64 (m)], L.v, S.v, T.v, .int .i64 (wm)]) (callTab [(12, .v (.bool (sizeB (c) (m)))), (15, .v (.bool (lrB L.l))), (19, .v (.bool (caksB S.l))), (23, .v (.bool (lrB T.l))), (27, .v (.bool (betB (wm) (0) (1800))))]) (litIn []) 29 Tryz.func68 (by kernel_rfl) (by kernel_rfl) (by simp)
    [.call 71 [.v (.agg #[.int .i64 (c), .int .i64 (m)])] (.v (.bool (sizeB (c) (m)))), .call 72 [.v (L.v)] (.v (.bool (lrB L.l))), .call 90 [.v (S.v)] (.v (.bool (caksB S.l))), .call 72 [.v (T.v)] (.v (.bool (lrB T.l))), .call 67 [.v (.int .i64 (wm)), .v (.int .i64 (0)), .v (.int .i64 (1800))] (.v (.bool (betB (wm) (0) (1800))))] [] [.v (.bool (cwantsB c m L.l S.l T.l wm))] (by kernel_rfl) (fun p hp => by cases hp) ?_ (fun ρ w' hb => ⟨rfl, hb⟩)
  exact paid2_cons (fun ρ _ w1 hb => vsize_any _ _ w1) (paid2_cons (fun ρ _ w1 hb => lright_any _ w1 (hL.below hb)) (paid2_cons (fun ρ _ w1 hb => lasks_any _ w1 (hS.below hb)) (paid2_cons (fun ρ _ w1 hb => lright_any _ w1 (hT.below hb)) (paid2_cons (fun ρ _ w1 hb => between_int _ _ _ w1) (paid2_nil)))))
set_option maxRecDepth 100000 in
theorem vwork_any (x : Wl) (w : World) (hx : x.Ok w) : Calls Tryz.prog 43 #[.agg x.cells.toArray] w fun e w' => e = .returned (.bool (cworkB x)) ∧ Below w.heap.size w w' := by
  obtain ⟨x0, x1, x2, ⟨v3, l3⟩, ⟨v4, l4⟩, ⟨v5, l5⟩, x6⟩ := x
  obtain ⟨A3, c3, rfl⟩ : ∃ A c, v3 = .slice A l3.length c := by obtain ⟨A, c, e, _⟩ := hx.labels.1; exact ⟨A, c, e⟩
  obtain ⟨A4, c4, rfl⟩ : ∃ A c, v4 = .slice A l4.length c := by obtain ⟨A, c, e, _⟩ := hx.select.1; exact ⟨A, c, e⟩
  obtain ⟨A5, c5, rfl⟩ : ∃ A c, v5 = .slice A l5.length c := by obtain ⟨A, c, e, _⟩ := hx.tolerate.1; exact ⟨A, c, e⟩
  refine px_plain (args := [.agg (⟨x0, x1, x2, ⟨.slice A3 l3.length c3, l3⟩, ⟨.slice A4 l4.length c4, l4⟩, ⟨.slice A5 l5.length c5, l5⟩, x6⟩ : Wl).cells.toArray]) (callTab [(5, .v (.bool (betB ((⟨x0, x1, x2, ⟨.slice A3 l3.length c3, l3⟩, ⟨.slice A4 l4.length c4, l4⟩, ⟨.slice A5 l5.length c5, l5⟩, x6⟩ : Wl).replicas) (0) (1000000)))), (17, .v (.bool (cwantsB (⟨x0, x1, x2, ⟨.slice A3 l3.length c3, l3⟩, ⟨.slice A4 l4.length c4, l4⟩, ⟨.slice A5 l5.length c5, l5⟩, x6⟩ : Wl).cpu (⟨x0, x1, x2, ⟨.slice A3 l3.length c3, l3⟩, ⟨.slice A4 l4.length c4, l4⟩, ⟨.slice A5 l5.length c5, l5⟩, x6⟩ : Wl).mem (⟨x0, x1, x2, ⟨.slice A3 l3.length c3, l3⟩, ⟨.slice A4 l4.length c4, l4⟩, ⟨.slice A5 l5.length c5, l5⟩, x6⟩ : Wl).labels.l (⟨x0, x1, x2, ⟨.slice A3 l3.length c3, l3⟩, ⟨.slice A4 l4.length c4, l4⟩, ⟨.slice A5 l5.length c5, l5⟩, x6⟩ : Wl).select.l (⟨x0, x1, x2, ⟨.slice A3 l3.length c3, l3⟩, ⟨.slice A4 l4.length c4, l4⟩, ⟨.slice A5 l5.length c5, l5⟩, x6⟩ : Wl).tolerate.l (⟨x0, x1, x2, ⟨.slice A3 l3.length c3, l3⟩, ⟨.slice A4 l4.length c4, l4⟩, ⟨.slice A5 l5.length c5, l5⟩, x6⟩ : Wl).warm)))]) (litIn []) 19 Tryz.func43 (by kernel_rfl) (by kernel_rfl) (by simp)
    [.call 67 [.v (.int .i64 ((⟨x0, x1, x2, ⟨.slice A3 l3.length c3, l3⟩, ⟨.slice A4 l4.length c4, l4⟩, ⟨.slice A5 l5.length c5, l5⟩, x6⟩ : Wl).replicas)), .v (.int .i64 (0)), .v (.int .i64 (1000000))] (.v (.bool (betB ((⟨x0, x1, x2, ⟨.slice A3 l3.length c3, l3⟩, ⟨.slice A4 l4.length c4, l4⟩, ⟨.slice A5 l5.length c5, l5⟩, x6⟩ : Wl).replicas) (0) (1000000)))), .call 68 [.v (.agg #[.int .i64 ((⟨x0, x1, x2, ⟨.slice A3 l3.length c3, l3⟩, ⟨.slice A4 l4.length c4, l4⟩, ⟨.slice A5 l5.length c5, l5⟩, x6⟩ : Wl).cpu), .int .i64 ((⟨x0, x1, x2, ⟨.slice A3 l3.length c3, l3⟩, ⟨.slice A4 l4.length c4, l4⟩, ⟨.slice A5 l5.length c5, l5⟩, x6⟩ : Wl).mem)]), .v ((⟨x0, x1, x2, ⟨.slice A3 l3.length c3, l3⟩, ⟨.slice A4 l4.length c4, l4⟩, ⟨.slice A5 l5.length c5, l5⟩, x6⟩ : Wl).labels.v), .v ((⟨x0, x1, x2, ⟨.slice A3 l3.length c3, l3⟩, ⟨.slice A4 l4.length c4, l4⟩, ⟨.slice A5 l5.length c5, l5⟩, x6⟩ : Wl).select.v), .v ((⟨x0, x1, x2, ⟨.slice A3 l3.length c3, l3⟩, ⟨.slice A4 l4.length c4, l4⟩, ⟨.slice A5 l5.length c5, l5⟩, x6⟩ : Wl).tolerate.v), .v (.int .i64 ((⟨x0, x1, x2, ⟨.slice A3 l3.length c3, l3⟩, ⟨.slice A4 l4.length c4, l4⟩, ⟨.slice A5 l5.length c5, l5⟩, x6⟩ : Wl).warm))] (.v (.bool (cwantsB (⟨x0, x1, x2, ⟨.slice A3 l3.length c3, l3⟩, ⟨.slice A4 l4.length c4, l4⟩, ⟨.slice A5 l5.length c5, l5⟩, x6⟩ : Wl).cpu (⟨x0, x1, x2, ⟨.slice A3 l3.length c3, l3⟩, ⟨.slice A4 l4.length c4, l4⟩, ⟨.slice A5 l5.length c5, l5⟩, x6⟩ : Wl).mem (⟨x0, x1, x2, ⟨.slice A3 l3.length c3, l3⟩, ⟨.slice A4 l4.length c4, l4⟩, ⟨.slice A5 l5.length c5, l5⟩, x6⟩ : Wl).labels.l (⟨x0, x1, x2, ⟨.slice A3 l3.length c3, l3⟩, ⟨.slice A4 l4.length c4, l4⟩, ⟨.slice A5 l5.length c5, l5⟩, x6⟩ : Wl).select.l (⟨x0, x1, x2, ⟨.slice A3 l3.length c3, l3⟩, ⟨.slice A4 l4.length c4, l4⟩, ⟨.slice A5 l5.length c5, l5⟩, x6⟩ : Wl).tolerate.l (⟨x0, x1, x2, ⟨.slice A3 l3.length c3, l3⟩, ⟨.slice A4 l4.length c4, l4⟩, ⟨.slice A5 l5.length c5, l5⟩, x6⟩ : Wl).warm)))] [] [.v (.bool (cworkB (⟨x0, x1, x2, ⟨.slice A3 l3.length c3, l3⟩, ⟨.slice A4 l4.length c4, l4⟩, ⟨.slice A5 l5.length c5, l5⟩, x6⟩ : Wl)))] (by kernel_rfl) (fun p hp => by cases hp) ?_ (fun ρ w' hb => ⟨rfl, hb⟩)
  exact paid2_cons (fun ρ _ w1 hb => between_int _ _ _ w1) (paid2_cons (fun ρ _ w1 hb => vwants_any _ _ _ _ _ _ w1 (hx.labels.below hb) (hx.select.below hb) (hx.tolerate.below hb)) (paid2_nil))
set_option maxRecDepth 100000 in
theorem vpod_any (x : Pd) (w : World) (hx : x.Ok w) : Calls Tryz.prog 44 #[.agg x.cells.toArray] w fun e w' => e = .returned (.bool (!(cpod1 x) && cpod2 x)) ∧ Below w.heap.size w w' := by
  obtain ⟨x0, x1, x2, x3, x4, x5, ⟨v6, l6⟩, ⟨v7, l7⟩, ⟨v8, l8⟩, x9⟩ := x
  obtain ⟨A6, c6, rfl⟩ : ∃ A c, v6 = .slice A l6.length c := by obtain ⟨A, c, e, _⟩ := hx.labels.1; exact ⟨A, c, e⟩
  obtain ⟨A7, c7, rfl⟩ : ∃ A c, v7 = .slice A l7.length c := by obtain ⟨A, c, e, _⟩ := hx.select.1; exact ⟨A, c, e⟩
  obtain ⟨A8, c8, rfl⟩ : ∃ A c, v8 = .slice A l8.length c := by obtain ⟨A, c, e, _⟩ := hx.tolerate.1; exact ⟨A, c, e⟩
  refine px_plain (args := [.agg (⟨x0, x1, x2, x3, x4, x5, ⟨.slice A6 l6.length c6, l6⟩, ⟨.slice A7 l7.length c7, l7⟩, ⟨.slice A8 l8.length c8, l8⟩, x9⟩ : Pd).cells.toArray]) (callTab [(6, .v (.bool (nmB (⟨x0, x1, x2, x3, x4, x5, ⟨.slice A6 l6.length c6, l6⟩, ⟨.slice A7 l7.length c7, l7⟩, ⟨.slice A8 l8.length c8, l8⟩, x9⟩ : Pd).owner))), (11, .v (.bool (vlB (⟨x0, x1, x2, x3, x4, x5, ⟨.slice A6 l6.length c6, l6⟩, ⟨.slice A7 l7.length c7, l7⟩, ⟨.slice A8 l8.length c8, l8⟩, x9⟩ : Pd).node))), (17, .v (.bool (betB ((⟨x0, x1, x2, x3, x4, x5, ⟨.slice A6 l6.length c6, l6⟩, ⟨.slice A7 l7.length c7, l7⟩, ⟨.slice A8 l8.length c8, l8⟩, x9⟩ : Pd).phase) (0) (3)))), (23, .v (.bool (betB ((⟨x0, x1, x2, x3, x4, x5, ⟨.slice A6 l6.length c6, l6⟩, ⟨.slice A7 l7.length c7, l7⟩, ⟨.slice A8 l8.length c8, l8⟩, x9⟩ : Pd).since) (0) (4611686018427387904)))), (50, .v (.bool (cwantsB (⟨x0, x1, x2, x3, x4, x5, ⟨.slice A6 l6.length c6, l6⟩, ⟨.slice A7 l7.length c7, l7⟩, ⟨.slice A8 l8.length c8, l8⟩, x9⟩ : Pd).cpu (⟨x0, x1, x2, x3, x4, x5, ⟨.slice A6 l6.length c6, l6⟩, ⟨.slice A7 l7.length c7, l7⟩, ⟨.slice A8 l8.length c8, l8⟩, x9⟩ : Pd).mem (⟨x0, x1, x2, x3, x4, x5, ⟨.slice A6 l6.length c6, l6⟩, ⟨.slice A7 l7.length c7, l7⟩, ⟨.slice A8 l8.length c8, l8⟩, x9⟩ : Pd).labels.l (⟨x0, x1, x2, x3, x4, x5, ⟨.slice A6 l6.length c6, l6⟩, ⟨.slice A7 l7.length c7, l7⟩, ⟨.slice A8 l8.length c8, l8⟩, x9⟩ : Pd).select.l (⟨x0, x1, x2, x3, x4, x5, ⟨.slice A6 l6.length c6, l6⟩, ⟨.slice A7 l7.length c7, l7⟩, ⟨.slice A8 l8.length c8, l8⟩, x9⟩ : Pd).tolerate.l (⟨x0, x1, x2, x3, x4, x5, ⟨.slice A6 l6.length c6, l6⟩, ⟨.slice A7 l7.length c7, l7⟩, ⟨.slice A8 l8.length c8, l8⟩, x9⟩ : Pd).warm)))]) (litIn []) 52 Tryz.func44 (by kernel_rfl) (by kernel_rfl) (by simp)
    [.call 48 [.v (.string (⟨x0, x1, x2, x3, x4, x5, ⟨.slice A6 l6.length c6, l6⟩, ⟨.slice A7 l7.length c7, l7⟩, ⟨.slice A8 l8.length c8, l8⟩, x9⟩ : Pd).owner)] (.v (.bool (nmB (⟨x0, x1, x2, x3, x4, x5, ⟨.slice A6 l6.length c6, l6⟩, ⟨.slice A7 l7.length c7, l7⟩, ⟨.slice A8 l8.length c8, l8⟩, x9⟩ : Pd).owner))), .call 69 [.v (.string (⟨x0, x1, x2, x3, x4, x5, ⟨.slice A6 l6.length c6, l6⟩, ⟨.slice A7 l7.length c7, l7⟩, ⟨.slice A8 l8.length c8, l8⟩, x9⟩ : Pd).node)] (.v (.bool (vlB (⟨x0, x1, x2, x3, x4, x5, ⟨.slice A6 l6.length c6, l6⟩, ⟨.slice A7 l7.length c7, l7⟩, ⟨.slice A8 l8.length c8, l8⟩, x9⟩ : Pd).node))), .call 67 [.v (.int .i64 ((⟨x0, x1, x2, x3, x4, x5, ⟨.slice A6 l6.length c6, l6⟩, ⟨.slice A7 l7.length c7, l7⟩, ⟨.slice A8 l8.length c8, l8⟩, x9⟩ : Pd).phase)), .v (.int .i64 (0)), .v (.int .i64 (3))] (.v (.bool (betB ((⟨x0, x1, x2, x3, x4, x5, ⟨.slice A6 l6.length c6, l6⟩, ⟨.slice A7 l7.length c7, l7⟩, ⟨.slice A8 l8.length c8, l8⟩, x9⟩ : Pd).phase) (0) (3)))), .call 70 [.v (.int .i64 ((⟨x0, x1, x2, x3, x4, x5, ⟨.slice A6 l6.length c6, l6⟩, ⟨.slice A7 l7.length c7, l7⟩, ⟨.slice A8 l8.length c8, l8⟩, x9⟩ : Pd).since)), .v (.int .i64 (0)), .v (.int .i64 (4611686018427387904))] (.v (.bool (betB ((⟨x0, x1, x2, x3, x4, x5, ⟨.slice A6 l6.length c6, l6⟩, ⟨.slice A7 l7.length c7, l7⟩, ⟨.slice A8 l8.length c8, l8⟩, x9⟩ : Pd).since) (0) (4611686018427387904)))), .call 68 [.v (.agg #[.int .i64 ((⟨x0, x1, x2, x3, x4, x5, ⟨.slice A6 l6.length c6, l6⟩, ⟨.slice A7 l7.length c7, l7⟩, ⟨.slice A8 l8.length c8, l8⟩, x9⟩ : Pd).cpu), .int .i64 ((⟨x0, x1, x2, x3, x4, x5, ⟨.slice A6 l6.length c6, l6⟩, ⟨.slice A7 l7.length c7, l7⟩, ⟨.slice A8 l8.length c8, l8⟩, x9⟩ : Pd).mem)]), .v ((⟨x0, x1, x2, x3, x4, x5, ⟨.slice A6 l6.length c6, l6⟩, ⟨.slice A7 l7.length c7, l7⟩, ⟨.slice A8 l8.length c8, l8⟩, x9⟩ : Pd).labels.v), .v ((⟨x0, x1, x2, x3, x4, x5, ⟨.slice A6 l6.length c6, l6⟩, ⟨.slice A7 l7.length c7, l7⟩, ⟨.slice A8 l8.length c8, l8⟩, x9⟩ : Pd).select.v), .v ((⟨x0, x1, x2, x3, x4, x5, ⟨.slice A6 l6.length c6, l6⟩, ⟨.slice A7 l7.length c7, l7⟩, ⟨.slice A8 l8.length c8, l8⟩, x9⟩ : Pd).tolerate.v), .v (.int .i64 ((⟨x0, x1, x2, x3, x4, x5, ⟨.slice A6 l6.length c6, l6⟩, ⟨.slice A7 l7.length c7, l7⟩, ⟨.slice A8 l8.length c8, l8⟩, x9⟩ : Pd).warm))] (.v (.bool (cwantsB (⟨x0, x1, x2, x3, x4, x5, ⟨.slice A6 l6.length c6, l6⟩, ⟨.slice A7 l7.length c7, l7⟩, ⟨.slice A8 l8.length c8, l8⟩, x9⟩ : Pd).cpu (⟨x0, x1, x2, x3, x4, x5, ⟨.slice A6 l6.length c6, l6⟩, ⟨.slice A7 l7.length c7, l7⟩, ⟨.slice A8 l8.length c8, l8⟩, x9⟩ : Pd).mem (⟨x0, x1, x2, x3, x4, x5, ⟨.slice A6 l6.length c6, l6⟩, ⟨.slice A7 l7.length c7, l7⟩, ⟨.slice A8 l8.length c8, l8⟩, x9⟩ : Pd).labels.l (⟨x0, x1, x2, x3, x4, x5, ⟨.slice A6 l6.length c6, l6⟩, ⟨.slice A7 l7.length c7, l7⟩, ⟨.slice A8 l8.length c8, l8⟩, x9⟩ : Pd).select.l (⟨x0, x1, x2, x3, x4, x5, ⟨.slice A6 l6.length c6, l6⟩, ⟨.slice A7 l7.length c7, l7⟩, ⟨.slice A8 l8.length c8, l8⟩, x9⟩ : Pd).tolerate.l (⟨x0, x1, x2, x3, x4, x5, ⟨.slice A6 l6.length c6, l6⟩, ⟨.slice A7 l7.length c7, l7⟩, ⟨.slice A8 l8.length c8, l8⟩, x9⟩ : Pd).warm)))] [] [.v (pickV (cpod1 (⟨x0, x1, x2, x3, x4, x5, ⟨.slice A6 l6.length c6, l6⟩, ⟨.slice A7 l7.length c7, l7⟩, ⟨.slice A8 l8.length c8, l8⟩, x9⟩ : Pd)) (.bool false) (.bool (cpod2 (⟨x0, x1, x2, x3, x4, x5, ⟨.slice A6 l6.length c6, l6⟩, ⟨.slice A7 l7.length c7, l7⟩, ⟨.slice A8 l8.length c8, l8⟩, x9⟩ : Pd))))] (by kernel_rfl) (fun p hp => by cases hp) ?_ (fun ρ w' hb => ⟨by rw [res_not], hb⟩)
  exact paid2_cons (fun ρ _ w1 hb => (lname_any _ w1 (wfs_max hx.owner)).mono fun e w' ⟨h1, h2⟩ => ⟨h1, h2 ▸ Below.refl _ _⟩) (paid2_cons (fun ρ _ w1 hb => vnamed_any _ w1 hx.node) (paid2_cons (fun ρ _ w1 hb => between_int _ _ _ w1) (paid2_cons (fun ρ _ w1 hb => between_64 _ _ _ w1) (paid2_cons (fun ρ _ w1 hb => vwants_any _ _ _ _ _ _ w1 (hx.labels.below hb) (hx.select.below hb) (hx.tolerate.below hb)) (paid2_nil)))))
set_option maxRecDepth 100000 in
theorem vnode_any (x : Nd) (w : World) (hx : x.Ok w) : Calls Tryz.prog 45 #[.agg x.cells.toArray] w fun e w' => e = .returned (.bool (cnodeB x)) ∧ Below w.heap.size w w' := by
  obtain ⟨x0, x1, x2, ⟨v3, l3⟩, ⟨v4, l4⟩, x5, x6⟩ := x
  obtain ⟨A3, c3, rfl⟩ : ∃ A c, v3 = .slice A l3.length c := by obtain ⟨A, c, e, _⟩ := hx.labels.1; exact ⟨A, c, e⟩
  obtain ⟨A4, c4, rfl⟩ : ∃ A c, v4 = .slice A l4.length c := by obtain ⟨A, c, e, _⟩ := hx.taints.1; exact ⟨A, c, e⟩
  refine px_plain (args := [.agg (⟨x0, x1, x2, ⟨.slice A3 l3.length c3, l3⟩, ⟨.slice A4 l4.length c4, l4⟩, x5, x6⟩ : Nd).cells.toArray]) (callTab [(5, .v (.bool (vlB (⟨x0, x1, x2, ⟨.slice A3 l3.length c3, l3⟩, ⟨.slice A4 l4.length c4, l4⟩, x5, x6⟩ : Nd).group))), (9, .v (.bool (sizeB ((⟨x0, x1, x2, ⟨.slice A3 l3.length c3, l3⟩, ⟨.slice A4 l4.length c4, l4⟩, x5, x6⟩ : Nd).cpu) ((⟨x0, x1, x2, ⟨.slice A3 l3.length c3, l3⟩, ⟨.slice A4 l4.length c4, l4⟩, x5, x6⟩ : Nd).mem)))), (14, .v (.bool (lrB (⟨x0, x1, x2, ⟨.slice A3 l3.length c3, l3⟩, ⟨.slice A4 l4.length c4, l4⟩, x5, x6⟩ : Nd).labels.l))), (19, .v (.bool (lrB (⟨x0, x1, x2, ⟨.slice A3 l3.length c3, l3⟩, ⟨.slice A4 l4.length c4, l4⟩, x5, x6⟩ : Nd).taints.l))), (24, .v (.bool (betB ((⟨x0, x1, x2, ⟨.slice A3 l3.length c3, l3⟩, ⟨.slice A4 l4.length c4, l4⟩, x5, x6⟩ : Nd).since) (0) (4611686018427387904))))]) (litIn []) 26 Tryz.func45 (by kernel_rfl) (by kernel_rfl) (by simp)
    [.call 69 [.v (.string (⟨x0, x1, x2, ⟨.slice A3 l3.length c3, l3⟩, ⟨.slice A4 l4.length c4, l4⟩, x5, x6⟩ : Nd).group)] (.v (.bool (vlB (⟨x0, x1, x2, ⟨.slice A3 l3.length c3, l3⟩, ⟨.slice A4 l4.length c4, l4⟩, x5, x6⟩ : Nd).group))), .call 71 [.v (.agg #[.int .i64 ((⟨x0, x1, x2, ⟨.slice A3 l3.length c3, l3⟩, ⟨.slice A4 l4.length c4, l4⟩, x5, x6⟩ : Nd).cpu), .int .i64 ((⟨x0, x1, x2, ⟨.slice A3 l3.length c3, l3⟩, ⟨.slice A4 l4.length c4, l4⟩, x5, x6⟩ : Nd).mem)])] (.v (.bool (sizeB ((⟨x0, x1, x2, ⟨.slice A3 l3.length c3, l3⟩, ⟨.slice A4 l4.length c4, l4⟩, x5, x6⟩ : Nd).cpu) ((⟨x0, x1, x2, ⟨.slice A3 l3.length c3, l3⟩, ⟨.slice A4 l4.length c4, l4⟩, x5, x6⟩ : Nd).mem)))), .call 72 [.v ((⟨x0, x1, x2, ⟨.slice A3 l3.length c3, l3⟩, ⟨.slice A4 l4.length c4, l4⟩, x5, x6⟩ : Nd).labels.v)] (.v (.bool (lrB (⟨x0, x1, x2, ⟨.slice A3 l3.length c3, l3⟩, ⟨.slice A4 l4.length c4, l4⟩, x5, x6⟩ : Nd).labels.l))), .call 72 [.v ((⟨x0, x1, x2, ⟨.slice A3 l3.length c3, l3⟩, ⟨.slice A4 l4.length c4, l4⟩, x5, x6⟩ : Nd).taints.v)] (.v (.bool (lrB (⟨x0, x1, x2, ⟨.slice A3 l3.length c3, l3⟩, ⟨.slice A4 l4.length c4, l4⟩, x5, x6⟩ : Nd).taints.l))), .call 70 [.v (.int .i64 ((⟨x0, x1, x2, ⟨.slice A3 l3.length c3, l3⟩, ⟨.slice A4 l4.length c4, l4⟩, x5, x6⟩ : Nd).since)), .v (.int .i64 (0)), .v (.int .i64 (4611686018427387904))] (.v (.bool (betB ((⟨x0, x1, x2, ⟨.slice A3 l3.length c3, l3⟩, ⟨.slice A4 l4.length c4, l4⟩, x5, x6⟩ : Nd).since) (0) (4611686018427387904))))] [] [.v (.bool (cnodeB (⟨x0, x1, x2, ⟨.slice A3 l3.length c3, l3⟩, ⟨.slice A4 l4.length c4, l4⟩, x5, x6⟩ : Nd)))] (by kernel_rfl) (fun p hp => by cases hp) ?_ (fun ρ w' hb => ⟨rfl, hb⟩)
  exact paid2_cons (fun ρ _ w1 hb => vnamed_any _ w1 hx.group) (paid2_cons (fun ρ _ w1 hb => vsize_any _ _ w1) (paid2_cons (fun ρ _ w1 hb => lright_any _ w1 (hx.labels.below hb)) (paid2_cons (fun ρ _ w1 hb => lright_any _ w1 (hx.taints.below hb)) (paid2_cons (fun ρ _ w1 hb => between_64 _ _ _ w1) (paid2_nil)))))
set_option maxRecDepth 100000 in
theorem vgroup_any (x : Gr) (w : World) (hx : x.Ok w) : Calls Tryz.prog 46 #[.agg x.cells.toArray] w fun e w' => e = .returned (.bool (cgroupB x)) ∧ Below w.heap.size w w' := by
  obtain ⟨x0, x1, x2, x3, x4, ⟨v5, l5⟩, ⟨v6, l6⟩, x7⟩ := x
  obtain ⟨A5, c5, rfl⟩ : ∃ A c, v5 = .slice A l5.length c := by obtain ⟨A, c, e, _⟩ := hx.labels.1; exact ⟨A, c, e⟩
  obtain ⟨A6, c6, rfl⟩ : ∃ A c, v6 = .slice A l6.length c := by obtain ⟨A, c, e, _⟩ := hx.taints.1; exact ⟨A, c, e⟩
  refine px_plain (args := [.agg (⟨x0, x1, x2, x3, x4, ⟨.slice A5 l5.length c5, l5⟩, ⟨.slice A6 l6.length c6, l6⟩, x7⟩ : Gr).cells.toArray]) (callTab [(25, .v (.bool (betB ((⟨x0, x1, x2, x3, x4, ⟨.slice A5 l5.length c5, l5⟩, ⟨.slice A6 l6.length c6, l6⟩, x7⟩ : Gr).target) ((⟨x0, x1, x2, x3, x4, ⟨.slice A5 l5.length c5, l5⟩, ⟨.slice A6 l6.length c6, l6⟩, x7⟩ : Gr).min) ((⟨x0, x1, x2, x3, x4, ⟨.slice A5 l5.length c5, l5⟩, ⟨.slice A6 l6.length c6, l6⟩, x7⟩ : Gr).max)))), (30, .v (.bool (sizeB ((⟨x0, x1, x2, x3, x4, ⟨.slice A5 l5.length c5, l5⟩, ⟨.slice A6 l6.length c6, l6⟩, x7⟩ : Gr).cpu) ((⟨x0, x1, x2, x3, x4, ⟨.slice A5 l5.length c5, l5⟩, ⟨.slice A6 l6.length c6, l6⟩, x7⟩ : Gr).mem)))), (35, .v (.bool (lrB (⟨x0, x1, x2, x3, x4, ⟨.slice A5 l5.length c5, l5⟩, ⟨.slice A6 l6.length c6, l6⟩, x7⟩ : Gr).labels.l))), (40, .v (.bool (lrB (⟨x0, x1, x2, x3, x4, ⟨.slice A5 l5.length c5, l5⟩, ⟨.slice A6 l6.length c6, l6⟩, x7⟩ : Gr).taints.l))), (45, .v (.bool (betB ((⟨x0, x1, x2, x3, x4, ⟨.slice A5 l5.length c5, l5⟩, ⟨.slice A6 l6.length c6, l6⟩, x7⟩ : Gr).priority) (0) (1000))))]) (litIn []) 47 Tryz.func46 (by kernel_rfl) (by kernel_rfl) (by simp)
    [.call 67 [.v (.int .i64 ((⟨x0, x1, x2, x3, x4, ⟨.slice A5 l5.length c5, l5⟩, ⟨.slice A6 l6.length c6, l6⟩, x7⟩ : Gr).target)), .v (.int .i64 ((⟨x0, x1, x2, x3, x4, ⟨.slice A5 l5.length c5, l5⟩, ⟨.slice A6 l6.length c6, l6⟩, x7⟩ : Gr).min)), .v (.int .i64 ((⟨x0, x1, x2, x3, x4, ⟨.slice A5 l5.length c5, l5⟩, ⟨.slice A6 l6.length c6, l6⟩, x7⟩ : Gr).max))] (.v (.bool (betB ((⟨x0, x1, x2, x3, x4, ⟨.slice A5 l5.length c5, l5⟩, ⟨.slice A6 l6.length c6, l6⟩, x7⟩ : Gr).target) ((⟨x0, x1, x2, x3, x4, ⟨.slice A5 l5.length c5, l5⟩, ⟨.slice A6 l6.length c6, l6⟩, x7⟩ : Gr).min) ((⟨x0, x1, x2, x3, x4, ⟨.slice A5 l5.length c5, l5⟩, ⟨.slice A6 l6.length c6, l6⟩, x7⟩ : Gr).max)))), .call 71 [.v (.agg #[.int .i64 ((⟨x0, x1, x2, x3, x4, ⟨.slice A5 l5.length c5, l5⟩, ⟨.slice A6 l6.length c6, l6⟩, x7⟩ : Gr).cpu), .int .i64 ((⟨x0, x1, x2, x3, x4, ⟨.slice A5 l5.length c5, l5⟩, ⟨.slice A6 l6.length c6, l6⟩, x7⟩ : Gr).mem)])] (.v (.bool (sizeB ((⟨x0, x1, x2, x3, x4, ⟨.slice A5 l5.length c5, l5⟩, ⟨.slice A6 l6.length c6, l6⟩, x7⟩ : Gr).cpu) ((⟨x0, x1, x2, x3, x4, ⟨.slice A5 l5.length c5, l5⟩, ⟨.slice A6 l6.length c6, l6⟩, x7⟩ : Gr).mem)))), .call 72 [.v ((⟨x0, x1, x2, x3, x4, ⟨.slice A5 l5.length c5, l5⟩, ⟨.slice A6 l6.length c6, l6⟩, x7⟩ : Gr).labels.v)] (.v (.bool (lrB (⟨x0, x1, x2, x3, x4, ⟨.slice A5 l5.length c5, l5⟩, ⟨.slice A6 l6.length c6, l6⟩, x7⟩ : Gr).labels.l))), .call 72 [.v ((⟨x0, x1, x2, x3, x4, ⟨.slice A5 l5.length c5, l5⟩, ⟨.slice A6 l6.length c6, l6⟩, x7⟩ : Gr).taints.v)] (.v (.bool (lrB (⟨x0, x1, x2, x3, x4, ⟨.slice A5 l5.length c5, l5⟩, ⟨.slice A6 l6.length c6, l6⟩, x7⟩ : Gr).taints.l))), .call 67 [.v (.int .i64 ((⟨x0, x1, x2, x3, x4, ⟨.slice A5 l5.length c5, l5⟩, ⟨.slice A6 l6.length c6, l6⟩, x7⟩ : Gr).priority)), .v (.int .i64 (0)), .v (.int .i64 (1000))] (.v (.bool (betB ((⟨x0, x1, x2, x3, x4, ⟨.slice A5 l5.length c5, l5⟩, ⟨.slice A6 l6.length c6, l6⟩, x7⟩ : Gr).priority) (0) (1000))))] [] [.v (.bool (cgroupB (⟨x0, x1, x2, x3, x4, ⟨.slice A5 l5.length c5, l5⟩, ⟨.slice A6 l6.length c6, l6⟩, x7⟩ : Gr)))] (by kernel_rfl) (fun p hp => by cases hp) ?_ (fun ρ w' hb => ⟨rfl, hb⟩)
  exact paid2_cons (fun ρ _ w1 hb => between_int _ _ _ w1) (paid2_cons (fun ρ _ w1 hb => vsize_any _ _ w1) (paid2_cons (fun ρ _ w1 hb => lright_any _ w1 (hx.labels.below hb)) (paid2_cons (fun ρ _ w1 hb => lright_any _ w1 (hx.taints.below hb)) (paid2_cons (fun ρ _ w1 hb => between_int _ _ _ w1) (paid2_nil)))))
set_option maxRecDepth 100000 in
theorem vpolicy_any (x : Pol) (w : World) : Calls Tryz.prog 96 #[.agg x.cells.toArray] w fun e w' => e = .returned (.bool (cpolB x)) ∧ Below w.heap.size w w' := by
  refine px_plain (args := [.agg x.cells.toArray]) (callTab [(5, .v (.bool (betB (x.value) (1) (1000000)))), (9, .v (.bool (betB (x.period) (1) (1800))))]) (litIn []) 11 Tryz.func96 (by kernel_rfl) (by kernel_rfl) (by simp)
    [.call 67 [.v (.int .i64 (x.value)), .v (.int .i64 (1)), .v (.int .i64 (1000000))] (.v (.bool (betB (x.value) (1) (1000000)))), .call 67 [.v (.int .i64 (x.period)), .v (.int .i64 (1)), .v (.int .i64 (1800))] (.v (.bool (betB (x.period) (1) (1800))))] [] [.v (.bool (cpolB x))] (by kernel_rfl) (fun p hp => by cases hp) ?_ (fun ρ w' hb => ⟨rfl, hb⟩)
  exact paid2_cons (fun ρ _ w1 hb => between_int _ _ _ w1) (paid2_cons (fun ρ _ w1 hb => between_int _ _ _ w1) (paid2_nil))
set_option maxRecDepth 100000 in
theorem vmetric_any (x : Met) (w : World) (hx : x.Wf) : Calls Tryz.prog 74 #[.agg x.cells.toArray] w fun e w' => e = .returned (.bool (!(cmet1 x) && cmet2 x)) ∧ Below w.heap.size w w' := by
  refine px_plain (args := [.agg x.cells.toArray]) (callTab [(5, .v (.bool (betB (x.kind) (0) (3)))), (10, .v (.bool (nmB x.name))), (16, .v (.bool (qrB (x.target))))]) (litIn []) 37 Tryz.func74 (by kernel_rfl) (by kernel_rfl) (by simp)
    [.call 67 [.v (.int .i64 (x.kind)), .v (.int .i64 (0)), .v (.int .i64 (3))] (.v (.bool (betB (x.kind) (0) (3)))), .call 48 [.v (.string x.name)] (.v (.bool (nmB x.name))), .call 91 [.v (.int .i64 (x.target))] (.v (.bool (qrB (x.target))))] [] [.v (pickV (cmet1 x) (.bool false) (.bool (cmet2 x)))] (by kernel_rfl) (fun p hp => by cases hp) ?_ (fun ρ w' hb => ⟨by rw [res_not], hb⟩)
  exact paid2_cons (fun ρ _ w1 hb => between_int _ _ _ w1) (paid2_cons (fun ρ _ w1 hb => (lname_any _ w1 (wfs_max hx.2.1)).mono fun e w' ⟨h1, h2⟩ => ⟨h1, h2 ▸ Below.refl _ _⟩) (paid2_cons (fun ρ _ w1 hb => qright_any _ w1) (paid2_nil)))
set_option maxRecDepth 100000 in
theorem vnothing_any (x : Bh) (w : World) (hx : x.Ok w) : Calls Tryz.prog 78 #[.agg x.cells.toArray] w fun e w' => e = .returned (.bool (cnoB x)) ∧ Below w.heap.size w w' := by
  obtain ⟨x0, x1, ⟨v2, l2⟩⟩ := x
  obtain ⟨A2, c2, rfl⟩ : ∃ A c, v2 = .slice A l2.length c := by obtain ⟨A, c, e, _⟩ := hx.policies.1; exact ⟨A, c, e⟩
  refine px_plain (args := [.agg (⟨x0, x1, ⟨.slice A2 l2.length c2, l2⟩⟩ : Bh).cells.toArray]) (callTab []) (litIn []) 17 Tryz.func78 (by kernel_rfl) (by kernel_rfl) (by simp)
    [] [] [.v (.bool (cnoB (⟨x0, x1, ⟨.slice A2 l2.length c2, l2⟩⟩ : Bh)))] (by kernel_rfl) (fun p hp => by cases hp) ?_ (fun ρ w' hb => ⟨rfl, hb⟩)
  exact paid2_nil
end Go.Proofs.YtlhaiflebigdlaaGreat
end
section
namespace Go.Proofs.YtlhaiflebigdlaaGreat
open Go.RowKit Go.Proofs.Mem
set_option linter.unusedVariables false
set_option linter.unusedSimpArgs false
def cmetB (x : Met) : Bool := !(cmet1 x) && cmet2 x
set_option maxRecDepth 100000 in
theorem vall1_met (x : Met) (hx : x.Wf) (b : Nat) (w : World) (hb : b < w.heap.size) (hrg : w.rangeAt b 0 [.func (.func 74) #[] #[]]) : Calls Tryz.prog 94 #[.agg x.cells.toArray, .pointer (some ⟨b, 0, none⟩)] w fun e w' => e = .returned (.bool (!(cmetB x))) ∧ Below w.heap.size w w' := by
  refine px_calls (f := 94) (fn := Tryz.f94) (args := [.v (.agg x.cells.toArray), .p 0 0]) (B := [⟨false, 148, [.func (.func 74) #[] #[]]⟩]) (ρ0 := fun _ => (b, 0)) (H := ⟨⟨Tryz.prog, [], aggR, callTab [(6, .v (.bool (cmetB x)))], 8, litIn []⟩, w, fun _ => True, 0, [], fun _ => none, litIn [], fun _ => none⟩) aggR_ok (fun _ _ _ _ h => h) (by kernel_rfl) Tryz.func94 rfl (by kernel_rfl) (by show (2 : Nat) ≤ 8; decide) rfl (by simp [SV.lt]) trivial (Nat.zero_le _) ?_ (fun _ => [])
    ⟨[.call 74 [.v (.agg x.cells.toArray)] (.v (.bool (cmetB x)))], [], []⟩ [.v (.bool (!(cmetB x)))] (by kernel_rfl) ⟨paid2_cons (fun ρ _ w1 hb => vmetric_any x w1 hx) paid2_nil, fun q hq => (by cases hq), fun p hp => (by cases hp)⟩ (fun ρ w' _ hb => ⟨rfl, hb⟩)
  intro i bl hB
  cases i with
  | zero =>
    simp only [List.getElem?_cons_zero, Option.some.injEq] at hB
    subst hB
    exact ⟨rfl, hb, hrg⟩
  | succ i => simp at hB
set_option maxRecDepth 100000 in
theorem vall_met (r : Row Met) (w : World) (hr : MetsOk w r) : Calls Tryz.prog 73 #[r.v, .func (.func 74) #[] #[]] w fun e w' => e = .returned (.bool (!(r.l.any (fun x => !(cmetB x))))) ∧ Below w.heap.size w w' := by
  have HR := Lib.hid hr
  obtain ⟨v, l⟩ := r
  obtain ⟨A, c, e, _⟩ := id hr.1
  simp only at e
  subst e
  clear hr
  go_enter Tryz.func73, Tryz.ntmps73
  go_wp2_with fail
  have kb := Bk.new w 148 #[.func (.func 74) #[] #[]]
  have hB1 := below_al w (.cells #[.func (.func 74) #[] #[]] 148)
  have hlt0 := kb.lt
  generalize w.alloc (.cells #[.func (.func 74) #[] #[]] 148) = w1 at kb hB1 hlt0 ⊢
  have hr1 := HR.out.below hB1
  refine (contains_met ⟨.slice A l.length c, l⟩ [.pointer (some ⟨w.heap.size, 0, none⟩)] (fun x => !(cmetB x)) w1 hr1 (row_len hr1 (by decide)) ?_).mono ?_
  · intro k h w' hb'
    have kr := kb.below' hb'
    refine vall1_met l[k] (hr1.2.2 _ (List.getElem_mem h)) _ w' kr.lt ?_
    intro j v hj
    cases j with
    | zero =>
      simp only [List.getElem?_cons_zero, Option.some.injEq] at hj
      subst hj
      exact kr.cell 0
    | succ j => simp at hj
  rintro e w2 ⟨rfl, hb2⟩
  go_wp2_with fail
  go_ret
  exact ⟨rfl, hB1.trans (hb2.mono hB1.size)⟩
set_option maxRecDepth 100000 in
theorem vall1_pol (x : Pol) (hx : x.Wf) (b : Nat) (w : World) (hb : b < w.heap.size) (hrg : w.rangeAt b 0 [.func (.func 96) #[] #[]]) : Calls Tryz.prog 107 #[.agg x.cells.toArray, .pointer (some ⟨b, 0, none⟩)] w fun e w' => e = .returned (.bool (!(cpolB x))) ∧ Below w.heap.size w w' := by
  refine px_calls (f := 107) (fn := Tryz.f107) (args := [.v (.agg x.cells.toArray), .p 0 0]) (B := [⟨false, 166, [.func (.func 96) #[] #[]]⟩]) (ρ0 := fun _ => (b, 0)) (H := ⟨⟨Tryz.prog, [], aggR, callTab [(6, .v (.bool (cpolB x)))], 8, litIn []⟩, w, fun _ => True, 0, [], fun _ => none, litIn [], fun _ => none⟩) aggR_ok (fun _ _ _ _ h => h) (by kernel_rfl) Tryz.func107 rfl (by kernel_rfl) (by show (2 : Nat) ≤ 8; decide) rfl (by simp [SV.lt]) trivial (Nat.zero_le _) ?_ (fun _ => [])
    ⟨[.call 96 [.v (.agg x.cells.toArray)] (.v (.bool (cpolB x)))], [], []⟩ [.v (.bool (!(cpolB x)))] (by kernel_rfl) ⟨paid2_cons (fun ρ _ w1 hb => vpolicy_any x w1) paid2_nil, fun q hq => (by cases hq), fun p hp => (by cases hp)⟩ (fun ρ w' _ hb => ⟨rfl, hb⟩)
  intro i bl hB
  cases i with
  | zero =>
    simp only [List.getElem?_cons_zero, Option.some.injEq] at hB
    subst hB
    exact ⟨rfl, hb, hrg⟩
  | succ i => simp at hB
set_option maxRecDepth 100000 in
theorem vall_pol (r : Row Pol) (w : World) (hr : PolsOk w r) : Calls Tryz.prog 95 #[r.v, .func (.func 96) #[] #[]] w fun e w' => e = .returned (.bool (!(r.l.any (fun x => !(cpolB x))))) ∧ Below w.heap.size w w' := by
  have HR := Lib.hid hr
  obtain ⟨v, l⟩ := r
  obtain ⟨A, c, e, _⟩ := id hr.1
  simp only at e
  subst e
  clear hr
  go_enter Tryz.func95, Tryz.ntmps95
  go_wp2_with fail
  have kb := Bk.new w 166 #[.func (.func 96) #[] #[]]
  have hB1 := below_al w (.cells #[.func (.func 96) #[] #[]] 166)
  have hlt0 := kb.lt
  generalize w.alloc (.cells #[.func (.func 96) #[] #[]] 166) = w1 at kb hB1 hlt0 ⊢
  have hr1 := HR.out.below hB1
  refine (contains_pol ⟨.slice A l.length c, l⟩ [.pointer (some ⟨w.heap.size, 0, none⟩)] (fun x => !(cpolB x)) w1 hr1 (row_len hr1 (by decide)) ?_).mono ?_
  · intro k h w' hb'
    have kr := kb.below' hb'
    refine vall1_pol l[k] (hr1.2.2 _ (List.getElem_mem h)) _ w' kr.lt ?_
    intro j v hj
    cases j with
    | zero =>
      simp only [List.getElem?_cons_zero, Option.some.injEq] at hj
      subst hj
      exact kr.cell 0
    | succ j => simp at hj
  rintro e w2 ⟨rfl, hb2⟩
  go_wp2_with fail
  go_ret
  exact ⟨rfl, hB1.trans (hb2.mono hB1.size)⟩
def allPol (l : List Pol) : Bool := !(l.any (fun x => !(cpolB x)))
def allMet (l : List Met) : Bool := !(l.any (fun x => !(cmetB x)))
def cbehB (x : Bh) : Bool := ((betB x.window 0 1800 && betB x.pick 0 2) && decide ((x.policies.l.length : Int) ≤ 4)) && allPol x.policies.l
def lastOf (l : List Done) : Nat → Int
  | 0 => 0
  | j + 1 => (l[j]?.map Done.at').getD 0
theorem lastOf_succ {l : List Done} (k : Nat) (h : k < l.length) : lastOf l (k + 1) = l[k].at' := by
  show (l[k]?.map Done.at').getD 0 = _
  rw [List.getElem?_eq_getElem h]
  rfl
def pastAt (l : List Done) (k : Nat) (h : k < l.length) : Bool := !((!(betB l[k].at' (lastOf l k) 4611686018427387904) || !(betB l[k].from' 0 1000000)) || !(betB l[k].to' 0 1000000))
def pastOk (l : List Done) : Bool := decide (∀ k (h : k < l.length), pastAt l k h = true)
theorem pastOk_no {l : List Done} (k : Nat) (h : k < l.length) (e : pastAt l k h = false) : pastOk l = false := decide_eq_false fun hh => by rw [hh k h] at e; cases e
def cpastB (l : List Done) : Bool := pastOk l && decide ((l.length : Int) ≤ 32)
def chpaB (x : Hp) : Bool := ((((((((nmB x.target && decide (1 ≤ x.min)) && decide (x.min ≤ x.max)) && decide (x.max ≤ 1000000)) && betB (x.metrics.l.length : Int) 1 4) && allMet x.metrics.l) && betB x.tolerance 0 1000) && cbehB x.up) && cbehB x.down) && cpastB x.past.l
set_option maxRecDepth 100000 in
theorem vbehavior_any (x : Bh) (w : World) (hx : x.Ok w) : Calls Tryz.prog 75 #[.agg x.cells.toArray] w fun e w' => e = .returned (.bool (cbehB x)) ∧ Below w.heap.size w w' := by
  obtain ⟨x0, x1, ⟨v2, l2⟩⟩ := x
  obtain ⟨A2, c2, rfl⟩ : ∃ A c, v2 = .slice A l2.length c := by obtain ⟨A, c, e, _⟩ := hx.policies.1; exact ⟨A, c, e⟩
  refine px_plain (args := [.agg (⟨x0, x1, ⟨.slice A2 l2.length c2, l2⟩⟩ : Bh).cells.toArray]) (callTab [(5, .v (.bool (betB ((⟨x0, x1, ⟨.slice A2 l2.length c2, l2⟩⟩ : Bh).window) (0) (1800)))), (9, .v (.bool (betB ((⟨x0, x1, ⟨.slice A2 l2.length c2, l2⟩⟩ : Bh).pick) (0) (2)))), (20, .v (.bool (allPol (⟨x0, x1, ⟨.slice A2 l2.length c2, l2⟩⟩ : Bh).policies.l)))]) (litIn []) 22 Tryz.func75 (by kernel_rfl) (by kernel_rfl) (by simp)
    [.call 67 [.v (.int .i64 ((⟨x0, x1, ⟨.slice A2 l2.length c2, l2⟩⟩ : Bh).window)), .v (.int .i64 (0)), .v (.int .i64 (1800))] (.v (.bool (betB ((⟨x0, x1, ⟨.slice A2 l2.length c2, l2⟩⟩ : Bh).window) (0) (1800)))), .call 67 [.v (.int .i64 ((⟨x0, x1, ⟨.slice A2 l2.length c2, l2⟩⟩ : Bh).pick)), .v (.int .i64 (0)), .v (.int .i64 (2))] (.v (.bool (betB ((⟨x0, x1, ⟨.slice A2 l2.length c2, l2⟩⟩ : Bh).pick) (0) (2)))), .call 95 [.v ((⟨x0, x1, ⟨.slice A2 l2.length c2, l2⟩⟩ : Bh).policies.v), .v (.func (.func 96) #[] #[])] (.v (.bool (allPol (⟨x0, x1, ⟨.slice A2 l2.length c2, l2⟩⟩ : Bh).policies.l)))] [] [.v (.bool (cbehB (⟨x0, x1, ⟨.slice A2 l2.length c2, l2⟩⟩ : Bh)))] (by kernel_rfl) (fun p hp => by cases hp) ?_ (fun ρ w' hb => ⟨rfl, hb⟩)
  exact paid2_cons (fun ρ _ w1 hb => between_int _ _ _ w1) (paid2_cons (fun ρ _ w1 hb => between_int _ _ _ w1) (paid2_cons (fun ρ _ w1 hb => vall_pol _ w1 (hx.policies.below hb)) (paid2_nil)))
def paHyp (P : Program) (agg : BinOp → TypeId → Array Value → Array Value → Option Value) (w : World) (A : Option Addr) (n c : Nat) (ok : Bool) : Hyp :=
  ⟨⟨P, [], agg, fun _ => none, 35, litIn []⟩, w, fun _ => True, 0, [], fun id => match Nat.beq id 0 with
    | true => some fun _ => .br ok (.done .normal ⟨mkF [0, 2] [.v (.slice A n c), .v (.bool false)], []⟩) (.done .ret ⟨mkF [2] [.v (.bool false)], []⟩)
    | false => none, litIn [], fun _ => none⟩
theorem done_sz : (Tryz.prog.info? 101).map (·.size) = some 3 := by kernel_rfl
set_option maxRecDepth 100000 in
theorem vpast_any (r : Row Done) (w : World) (hr : DonesOk w r) : Calls Tryz.prog 76 #[r.v] w fun e w' => e = .returned (.bool (cpastB r.l)) ∧ Below w.heap.size w w' := by
  have hl := row_len hr (by decide)
  obtain ⟨v, l⟩ := r
  obtain ⟨A, c, e, _⟩ := id hr.1
  simp only at e hl
  subst e
  have hL : LoopSpec (paHyp Tryz.prog aggR w A l.length c (pastOk l)) (fun _ => [8, 3, 0, 6, 7, 2]) (0, .loop (loopBody Tryz.f76 0), [some (.v (.int .i64 0)), some (.v (.int .i64 0)), some (.v (.slice A l.length c)), some (.v (.slice A l.length c)), some (.v (.int .i64 (l.length : Int))), some (.v (.bool false))], []) := by
    refine px_loop (H := paHyp Tryz.prog aggR w A l.length c (pastOk l)) (K := .i64) aggR_ok (fun _ _ _ _ h => h) (by kernel_rfl) rfl (fun _ => [8, 3, 0, 6, 7, 2]) (kx := [0, 2]) (kr := [2]) rfl l.length 0 (fun k => ∀ i (h : i < l.length), i < k → pastAt l i h = true) (fun i h hi => absurd hi (Nat.not_lt_zero _)) (fun k => [.v (.int .i64 (lastOf l k)), .v (.slice A l.length c), .v (.slice A l.length c), .v (.int .i64 (l.length : Int)), .v (.bool false)]) (fun _ => [])
      (fun k => if h : k < l.length then some (⟨false, 101, Done.cells l[k]⟩, match A with | some ad => (ad.block, ad.off + k * 3) | none => (0, 0)) else none)
      (fun k => if h : k < l.length then callTab [(10, .p 0 0), (15, .v (.bool (betB l[k].at' (lastOf l k) 4611686018427387904))), (20, .v (.bool (betB l[k].from' 0 1000000))), (26, .v (.bool (betB l[k].to' 0 1000000)))] else callTab [])
      (fun _ => litIn []) (fun k s => match Nat.beq s 9 with | true => some (decide (k < l.length)) | false => none)
      (fun _ _ => rfl) (fun _ _ => rfl) ?_ (Nat.le_refl _) ?_
    · intro k x hx
      split at hx
      · rename_i hk
        obtain ⟨b, o, c', e, hb, hrg⟩ := row_range (r := ⟨.slice A l.length c, l⟩) (s := 3) (by decide) (fun _ => rfl) hr (Nat.lt_of_le_of_lt (Nat.zero_le _) hk)
        simp only [Value.slice.injEq] at e
        obtain ⟨rfl, -, -⟩ := e
        simp only [Option.some.injEq] at hx
        subst hx
        exact ⟨rfl, hb, elem_range (f := Done.cells) (s := 3) (fun _ => rfl) hrg k hk⟩
      · cases hx
    · intro k hk hJ
      by_cases hkn : k < l.length
      · obtain ⟨b, o, c', e, hb, hrg⟩ := row_range (r := ⟨.slice A l.length c, l⟩) (s := 3) (by decide) (fun _ => rfl) hr (Nat.lt_of_le_of_lt (Nat.zero_le _) hkn)
        simp only [Value.slice.injEq] at e
        obtain ⟨rfl, -, -⟩ := e
        rw [dif_pos hkn, dif_pos hkn, decide_eq_true hkn]
        refine ⟨.br ((!(betB l[k].at' (lastOf l k) 4611686018427387904) || !(betB l[k].from' 0 1000000)) || !(betB l[k].to' 0 1000000)) (.ret [some (.v (.bool false))] []) (.norm [some (.v (.int .i64 (IntKind.i64.wrap ((k : Int) + 1)))), some (.v (.int .i64 l[k].at')), some (.v (.slice (some ⟨b, o, none⟩) l.length c)), some (.v (.slice (some ⟨b, o, none⟩) l.length c)), some (.v (.int .i64 (l.length : Int))), some (.v (.bool false))] []),
          ⟨[.op (fun ρ => do pure (.value (← Instr.indexAt 52 (.slice (some ⟨b, o, none⟩) l.length c) (.int .i64 (k : Int))))) (.p 0 0), .call 70 [.v (.int .i64 l[k].at'), .v (.int .i64 (lastOf l k)), .v (.int .i64 4611686018427387904)] (.v (.bool (betB l[k].at' (lastOf l k) 4611686018427387904))),
            .call 67 [.v (.int .i64 l[k].from'), .v (.int .i64 0), .v (.int .i64 1000000)] (.v (.bool (betB l[k].from' 0 1000000))), .call 67 [.v (.int .i64 l[k].to'), .v (.int .i64 0), .v (.int .i64 1000000)] (.v (.bool (betB l[k].to' 0 1000000)))], [], [(decide ((k : Int) < (l.length : Int)), true)]⟩, by kernel_rfl, ⟨?_, ?_, ?_⟩, ?_⟩
        · refine paid2_cons (paid_index (s := 3) (by kernel_rfl) done_sz hkn fun ρ hX => ?_) (paid2_cons (fun ρ _ w1 hb => between_64 _ _ _ w1) (paid2_cons (fun ρ _ w1 hb => between_int _ _ _ w1) (paid2_cons (fun ρ _ w1 hb => between_int _ _ _ w1) paid2_nil)))
          rw [hX.2 _ rfl]
          exact ⟨rfl, rfl⟩
        · exact fun q hq => by cases hq
        · exact fun p hp => by rw [List.mem_singleton.1 hp]; exact decide_eq_true (Int.ofNat_lt.2 hkn)
        · refine ⟨fun hb => ⟨[.v (.bool false)], rfl, rfl, fun Q hQ => hQ.2 (pastOk_no k hkn ?_)⟩, fun hb => ⟨hkn, ?_, ?_, rfl⟩⟩
          · unfold pastAt
            rw [hb]
            rfl
          · refine fun i h hi => ?_
            rcases Nat.lt_or_eq_of_le (Nat.le_of_lt_succ hi) with h1 | h1
            · exact hJ i h h1
            · subst h1
              unfold pastAt
              rw [hb]
              rfl
          · rw [wrap_add k (by omega), lastOf_succ k hkn]
            rfl
      · have : k = l.length := by omega
        subst this
        rw [dif_neg hkn, dif_neg hkn, decide_eq_false hkn]
        refine ⟨.exit [some (.v (.slice A l.length c)), some (.v (.bool false))] [], ⟨[], [], [(decide ((l.length : Int) < (l.length : Int)), false)]⟩, by kernel_rfl, ⟨fun x hx => (by cases hx), fun x hx => (by cases hx), fun p hp => by rw [List.mem_singleton.1 hp]; simp⟩, [.v (.slice A l.length c), .v (.bool false)], rfl, rfl, fun Q hQ => ?_⟩
        exact hQ.1 (decide_eq_true fun i h => hJ i h h)
  refine px_calls (f := 76) (fn := Tryz.f76) (args := [.v (.slice A l.length c)]) (B := []) (ρ0 := fun _ => (0, 0)) (H := paHyp Tryz.prog aggR w A l.length c (pastOk l)) aggR_ok (fun _ _ _ _ h => h) (by kernel_rfl) Tryz.func76 rfl (by kernel_rfl) (by show (1 : Nat) ≤ 35; decide) rfl (by simp [SV.lt]) trivial (Nat.le_refl _) (fun i b hb => by simp at hb) (fun _ => [8, 3, 0, 6, 7, 2])
    ⟨[], [(0, .loop (loopBody Tryz.f76 0), [some (.v (.int .i64 0)), some (.v (.int .i64 0)), some (.v (.slice A l.length c)), some (.v (.slice A l.length c)), some (.v (.int .i64 (l.length : Int))), some (.v (.bool false))], [])], []⟩ [.v (.bool (cpastB l))] (by kernel_rfl) ⟨fun x hx => (by cases hx), fun q hq => by rw [List.mem_singleton.1 hq]; exact hL, fun p hp => (by cases hp)⟩ (fun ρ w' _ hb => ⟨rfl, hb⟩)
set_option maxRecDepth 100000 in
theorem vhpa_any (x : Hp) (w : World) (hx : x.Ok w) : Calls Tryz.prog 47 #[.agg x.cells.toArray] w fun e w' => e = .returned (.bool (chpaB x)) ∧ Below w.heap.size w w' := by
  obtain ⟨x0, x1, x2, ⟨v3, l3⟩, x4, ⟨u0, u1, ⟨v5, l5⟩⟩, ⟨d0, d1, ⟨v6, l6⟩⟩, ⟨v7, l7⟩⟩ := x
  obtain ⟨A3, c3, rfl⟩ : ∃ A c, v3 = .slice A l3.length c := by obtain ⟨A, c, e, _⟩ := hx.metrics.1; exact ⟨A, c, e⟩
  obtain ⟨A5, c5, rfl⟩ : ∃ A c, v5 = .slice A l5.length c := by obtain ⟨A, c, e, _⟩ := hx.up.policies.1; exact ⟨A, c, e⟩
  obtain ⟨A6, c6, rfl⟩ : ∃ A c, v6 = .slice A l6.length c := by obtain ⟨A, c, e, _⟩ := hx.down.policies.1; exact ⟨A, c, e⟩
  obtain ⟨A7, c7, rfl⟩ : ∃ A c, v7 = .slice A l7.length c := by obtain ⟨A, c, e, _⟩ := hx.past.1; exact ⟨A, c, e⟩
  refine px_plain (args := [.agg (⟨x0, x1, x2, ⟨.slice A3 l3.length c3, l3⟩, x4, ⟨u0, u1, ⟨.slice A5 l5.length c5, l5⟩⟩, ⟨d0, d1, ⟨.slice A6 l6.length c6, l6⟩⟩, ⟨.slice A7 l7.length c7, l7⟩⟩ : Hp).cells.toArray]) (callTab [(5, .v (.bool (nmB (⟨x0, x1, x2, ⟨.slice A3 l3.length c3, l3⟩, x4, ⟨u0, u1, ⟨.slice A5 l5.length c5, l5⟩⟩, ⟨d0, d1, ⟨.slice A6 l6.length c6, l6⟩⟩, ⟨.slice A7 l7.length c7, l7⟩⟩ : Hp).target))), (27, .v (.bool (betB ((⟨x0, x1, x2, ⟨.slice A3 l3.length c3, l3⟩, x4, ⟨u0, u1, ⟨.slice A5 l5.length c5, l5⟩⟩, ⟨d0, d1, ⟨.slice A6 l6.length c6, l6⟩⟩, ⟨.slice A7 l7.length c7, l7⟩⟩ : Hp).metrics.l.length) (1) (4)))), (32, .v (.bool (allMet (⟨x0, x1, x2, ⟨.slice A3 l3.length c3, l3⟩, x4, ⟨u0, u1, ⟨.slice A5 l5.length c5, l5⟩⟩, ⟨d0, d1, ⟨.slice A6 l6.length c6, l6⟩⟩, ⟨.slice A7 l7.length c7, l7⟩⟩ : Hp).metrics.l))), (37, .v (.bool (betB ((⟨x0, x1, x2, ⟨.slice A3 l3.length c3, l3⟩, x4, ⟨u0, u1, ⟨.slice A5 l5.length c5, l5⟩⟩, ⟨d0, d1, ⟨.slice A6 l6.length c6, l6⟩⟩, ⟨.slice A7 l7.length c7, l7⟩⟩ : Hp).tolerance) (0) (1000)))), (42, .v (.bool (cbehB (⟨x0, x1, x2, ⟨.slice A3 l3.length c3, l3⟩, x4, ⟨u0, u1, ⟨.slice A5 l5.length c5, l5⟩⟩, ⟨d0, d1, ⟨.slice A6 l6.length c6, l6⟩⟩, ⟨.slice A7 l7.length c7, l7⟩⟩ : Hp).up))), (47, .v (.bool (cbehB (⟨x0, x1, x2, ⟨.slice A3 l3.length c3, l3⟩, x4, ⟨u0, u1, ⟨.slice A5 l5.length c5, l5⟩⟩, ⟨d0, d1, ⟨.slice A6 l6.length c6, l6⟩⟩, ⟨.slice A7 l7.length c7, l7⟩⟩ : Hp).down))), (52, .v (.bool (cpastB (⟨x0, x1, x2, ⟨.slice A3 l3.length c3, l3⟩, x4, ⟨u0, u1, ⟨.slice A5 l5.length c5, l5⟩⟩, ⟨d0, d1, ⟨.slice A6 l6.length c6, l6⟩⟩, ⟨.slice A7 l7.length c7, l7⟩⟩ : Hp).past.l)))]) (litIn []) 54 Tryz.func47 (by kernel_rfl) (by kernel_rfl) (by simp)
    [.call 48 [.v (.string (⟨x0, x1, x2, ⟨.slice A3 l3.length c3, l3⟩, x4, ⟨u0, u1, ⟨.slice A5 l5.length c5, l5⟩⟩, ⟨d0, d1, ⟨.slice A6 l6.length c6, l6⟩⟩, ⟨.slice A7 l7.length c7, l7⟩⟩ : Hp).target)] (.v (.bool (nmB (⟨x0, x1, x2, ⟨.slice A3 l3.length c3, l3⟩, x4, ⟨u0, u1, ⟨.slice A5 l5.length c5, l5⟩⟩, ⟨d0, d1, ⟨.slice A6 l6.length c6, l6⟩⟩, ⟨.slice A7 l7.length c7, l7⟩⟩ : Hp).target))), .call 67 [.v (.int .i64 ((⟨x0, x1, x2, ⟨.slice A3 l3.length c3, l3⟩, x4, ⟨u0, u1, ⟨.slice A5 l5.length c5, l5⟩⟩, ⟨d0, d1, ⟨.slice A6 l6.length c6, l6⟩⟩, ⟨.slice A7 l7.length c7, l7⟩⟩ : Hp).metrics.l.length)), .v (.int .i64 (1)), .v (.int .i64 (4))] (.v (.bool (betB ((⟨x0, x1, x2, ⟨.slice A3 l3.length c3, l3⟩, x4, ⟨u0, u1, ⟨.slice A5 l5.length c5, l5⟩⟩, ⟨d0, d1, ⟨.slice A6 l6.length c6, l6⟩⟩, ⟨.slice A7 l7.length c7, l7⟩⟩ : Hp).metrics.l.length) (1) (4)))), .call 73 [.v ((⟨x0, x1, x2, ⟨.slice A3 l3.length c3, l3⟩, x4, ⟨u0, u1, ⟨.slice A5 l5.length c5, l5⟩⟩, ⟨d0, d1, ⟨.slice A6 l6.length c6, l6⟩⟩, ⟨.slice A7 l7.length c7, l7⟩⟩ : Hp).metrics.v), .v (.func (.func 74) #[] #[])] (.v (.bool (allMet (⟨x0, x1, x2, ⟨.slice A3 l3.length c3, l3⟩, x4, ⟨u0, u1, ⟨.slice A5 l5.length c5, l5⟩⟩, ⟨d0, d1, ⟨.slice A6 l6.length c6, l6⟩⟩, ⟨.slice A7 l7.length c7, l7⟩⟩ : Hp).metrics.l))), .call 67 [.v (.int .i64 ((⟨x0, x1, x2, ⟨.slice A3 l3.length c3, l3⟩, x4, ⟨u0, u1, ⟨.slice A5 l5.length c5, l5⟩⟩, ⟨d0, d1, ⟨.slice A6 l6.length c6, l6⟩⟩, ⟨.slice A7 l7.length c7, l7⟩⟩ : Hp).tolerance)), .v (.int .i64 (0)), .v (.int .i64 (1000))] (.v (.bool (betB ((⟨x0, x1, x2, ⟨.slice A3 l3.length c3, l3⟩, x4, ⟨u0, u1, ⟨.slice A5 l5.length c5, l5⟩⟩, ⟨d0, d1, ⟨.slice A6 l6.length c6, l6⟩⟩, ⟨.slice A7 l7.length c7, l7⟩⟩ : Hp).tolerance) (0) (1000)))), .call 75 [.v (.agg (⟨x0, x1, x2, ⟨.slice A3 l3.length c3, l3⟩, x4, ⟨u0, u1, ⟨.slice A5 l5.length c5, l5⟩⟩, ⟨d0, d1, ⟨.slice A6 l6.length c6, l6⟩⟩, ⟨.slice A7 l7.length c7, l7⟩⟩ : Hp).up.cells.toArray)] (.v (.bool (cbehB (⟨x0, x1, x2, ⟨.slice A3 l3.length c3, l3⟩, x4, ⟨u0, u1, ⟨.slice A5 l5.length c5, l5⟩⟩, ⟨d0, d1, ⟨.slice A6 l6.length c6, l6⟩⟩, ⟨.slice A7 l7.length c7, l7⟩⟩ : Hp).up))), .call 75 [.v (.agg (⟨x0, x1, x2, ⟨.slice A3 l3.length c3, l3⟩, x4, ⟨u0, u1, ⟨.slice A5 l5.length c5, l5⟩⟩, ⟨d0, d1, ⟨.slice A6 l6.length c6, l6⟩⟩, ⟨.slice A7 l7.length c7, l7⟩⟩ : Hp).down.cells.toArray)] (.v (.bool (cbehB (⟨x0, x1, x2, ⟨.slice A3 l3.length c3, l3⟩, x4, ⟨u0, u1, ⟨.slice A5 l5.length c5, l5⟩⟩, ⟨d0, d1, ⟨.slice A6 l6.length c6, l6⟩⟩, ⟨.slice A7 l7.length c7, l7⟩⟩ : Hp).down))), .call 76 [.v ((⟨x0, x1, x2, ⟨.slice A3 l3.length c3, l3⟩, x4, ⟨u0, u1, ⟨.slice A5 l5.length c5, l5⟩⟩, ⟨d0, d1, ⟨.slice A6 l6.length c6, l6⟩⟩, ⟨.slice A7 l7.length c7, l7⟩⟩ : Hp).past.v)] (.v (.bool (cpastB (⟨x0, x1, x2, ⟨.slice A3 l3.length c3, l3⟩, x4, ⟨u0, u1, ⟨.slice A5 l5.length c5, l5⟩⟩, ⟨d0, d1, ⟨.slice A6 l6.length c6, l6⟩⟩, ⟨.slice A7 l7.length c7, l7⟩⟩ : Hp).past.l)))] [] [.v (.bool (chpaB (⟨x0, x1, x2, ⟨.slice A3 l3.length c3, l3⟩, x4, ⟨u0, u1, ⟨.slice A5 l5.length c5, l5⟩⟩, ⟨d0, d1, ⟨.slice A6 l6.length c6, l6⟩⟩, ⟨.slice A7 l7.length c7, l7⟩⟩ : Hp)))] (by kernel_rfl) (fun p hp => by cases hp) ?_ (fun ρ w' hb => ⟨rfl, hb⟩)
  exact paid2_cons (fun ρ _ w1 hb => (lname_any _ w1 (wfs_max hx.target)).mono fun e w' ⟨h1, h2⟩ => ⟨h1, h2 ▸ Below.refl _ _⟩) (paid2_cons (fun ρ _ w1 hb => between_int _ _ _ w1) (paid2_cons (fun ρ _ w1 hb => vall_met _ w1 (hx.metrics.below hb)) (paid2_cons (fun ρ _ w1 hb => between_int _ _ _ w1) (paid2_cons (fun ρ _ w1 hb => vbehavior_any _ w1 (hx.up.below hb)) (paid2_cons (fun ρ _ w1 hb => vbehavior_any _ w1 (hx.down.below hb)) (paid2_cons (fun ρ _ w1 hb => vpast_any _ w1 (hx.past.below hb)) (paid2_nil)))))))
end Go.Proofs.YtlhaiflebigdlaaGreat
end
section
namespace Go.Proofs.YtlhaiflebigdlaaGreat
open Go.RowKit Go.Proofs.Mem
set_option linter.unusedVariables false
set_option linter.unusedSimpArgs false
theorem res_bool {ρ : Nat → Nat × Nat} (b : Bool) : resVal ρ [.v (pickV b (.bool true) (.bool false))] = .bool b := by cases b <;> rfl
def cnoL (a b : Int) (n : Nat) : Bool := ((a == 0) && (b == 0)) && ((n : Int) == 0)
def ceH (ta : ByteArray) (mi ma : Int) (n1 n2 : Nat) (to : Int) (u d : Bool) : Bool := (((((strE ta && (mi == 0)) && (ma == 0)) && (addI n1 n2 == 0)) && (to == 0)) && u) && d
def eAt (e0 e1 e2 e3 e4 : Bool) : Nat → Bool
  | 0 => e0
  | 1 => e1
  | 2 => e2
  | 3 => e3
  | _ => e4
def emOk (kind : Int) (e : Nat → Bool) : Bool := decide (∀ k : Nat, k < 5 → ((((k : Int) != kind)) && !(e k)) = false)
theorem emOk_no {kind : Int} {e : Nat → Bool} (k : Nat) (h : k < 5) (hb : ((((k : Int) != kind)) && !(e k)) = true) : emOk kind e = false := decide_eq_false fun hh => by rw [hh k h] at hb; cases hb
def emHyp (P : Program) (agg : BinOp → TypeId → Array Value → Array Value → Option Value) (w : World) (u d ok : Bool) (B : List Blk) : Hyp :=
  ⟨⟨P, [], agg, callTab [(188, .v (.bool u)), (193, .v (.bool d))], 212, litIn []⟩, w, fun _ => True, 0, [], fun id => match Nat.beq id 0 with
    | true => some fun _ => .br ok (.done .normal ⟨[], B⟩) (.done .ret ⟨mkF [2] [.v (.bool false)], B⟩)
    | false => none, litIn [199], fun _ => none⟩
def cemptyB (o : Ob) : Bool := emOk o.kind (eAt (emW o.w.replicas o.w.cpu o.w.mem o.w.labels.l.length o.w.select.l.length o.w.tolerate.l.length o.w.warm)
  (emP o.p.owner o.p.node o.p.phase o.p.since o.p.cpu o.p.mem o.p.labels.l.length o.p.select.l.length o.p.tolerate.l.length o.p.warm)
  (emN o.n.group o.n.cpu o.n.mem o.n.labels.l.length o.n.taints.l.length o.n.since o.n.closed)
  (emG o.g.min o.g.max o.g.target o.g.cpu o.g.mem o.g.labels.l.length o.g.taints.l.length o.g.priority)
  (ceH o.h.target o.h.min o.h.max o.h.metrics.l.length o.h.past.l.length o.h.tolerance (cnoL o.h.up.window o.h.up.pick o.h.up.policies.l.length) (cnoL o.h.down.window o.h.down.pick o.h.down.policies.l.length)))
set_option maxRecDepth 100000 in
theorem emloop (w : World) (kind : Int) (u d e0 e1 e2 e3 e4 : Bool) (cs : List Value) (B1 B2 B3 B4 B5 B6 : Blk) (h0 : cs[0]? = some (.int .i64 kind)) :
    LoopSpec (emHyp Tryz.prog aggR w u d (emOk kind (eAt e0 e1 e2 e3 e4)) [⟨true, 56, cs⟩, B1, B2, B3, B4, B5, B6, ⟨true, 4, [.bool e0, .bool e1, .bool e2, .bool e3, .bool e4]⟩]) (fun _ => [198, 196, 197, 1, 2]) (0, .loop (loopBody Tryz.f49 0), [some (.v (.int .i64 0)), some (.s 7 0 5 5), some (.v (.int .i64 5)), some (.p 0 0), some (.v (.bool false))], [⟨true, 56, cs⟩, B1, B2, B3, B4, B5, B6, ⟨true, 4, [.bool e0, .bool e1, .bool e2, .bool e3, .bool e4]⟩]) := by
  obtain ⟨cs', rfl⟩ : ∃ cs', cs = .int .i64 kind :: cs' := by
    cases cs with
    | nil => cases h0
    | cons x r => simp only [List.getElem?_cons_zero, Option.some.injEq] at h0; exact ⟨r, by rw [h0]⟩
  refine px_loop (H := emHyp Tryz.prog aggR w u d (emOk kind (eAt e0 e1 e2 e3 e4)) [⟨true, 56, .int .i64 kind :: cs'⟩, B1, B2, B3, B4, B5, B6, ⟨true, 4, [.bool e0, .bool e1, .bool e2, .bool e3, .bool e4]⟩]) (K := .i64) aggR_ok (fun _ _ _ _ h => h) (by kernel_rfl) rfl (fun _ => [198, 196, 197, 1, 2]) (kx := []) (kr := [2]) rfl 5 8 (fun k => ∀ i : Nat, i < 5 → i < k → ((((i : Int) != kind)) && !(eAt e0 e1 e2 e3 e4 i)) = false) (fun i h hi => absurd hi (Nat.not_lt_zero _)) (fun _ => [.s 7 0 5 5, .v (.int .i64 5), .p 0 0, .v (.bool false)])
    (fun _ => [⟨true, 56, .int .i64 kind :: cs'⟩, B1, B2, B3, B4, B5, B6, ⟨true, 4, [.bool e0, .bool e1, .bool e2, .bool e3, .bool e4]⟩]) (fun _ => none) (fun _ => callTab []) (fun _ => litIn []) (fun _ _ => none)
    (fun _ _ => rfl) (fun _ _ => rfl) (fun k x hx => by cases hx) (Nat.zero_le _) ?_
  intro k hk hJ
  have fin : ∀ k : Nat, k < 5 → (∀ i : Nat, i < 5 → i < k → ((((i : Int) != kind)) && !(eAt e0 e1 e2 e3 e4 i)) = false) → ((((k : Int) != kind)) && !(eAt e0 e1 e2 e3 e4 k)) = false → ∀ i : Nat, i < 5 → i < k + 1 → ((((i : Int) != kind)) && !(eAt e0 e1 e2 e3 e4 i)) = false := by
    intro k _ hJ hb i h hi
    rcases Nat.lt_or_eq_of_le (Nat.le_of_lt_succ hi) with h1 | h1
    · exact hJ i h h1
    · subst h1; exact hb
  rcases k with _ | _ | _ | _ | _ | _ | k
  · refine ⟨.br ((((0 : Nat) : Int) != kind) && !e0) (.ret [some (.v (.bool false))] [⟨true, 56, .int .i64 kind :: cs'⟩, B1, B2, B3, B4, B5, B6, ⟨true, 4, [.bool e0, .bool e1, .bool e2, .bool e3, .bool e4]⟩]) (.norm [some (.v (.int .i64 (IntKind.i64.wrap (((0 : Nat) : Int) + 1)))), some (.s 7 0 5 5), some (.v (.int .i64 5)), some (.p 0 0), some (.v (.bool false))] [⟨true, 56, .int .i64 kind :: cs'⟩, B1, B2, B3, B4, B5, B6, ⟨true, 4, [.bool e0, .bool e1, .bool e2, .bool e3, .bool e4]⟩]), ⟨[], [], []⟩, by kernel_rfl, ⟨fun x hx => (by cases hx), fun x hx => (by cases hx), fun x hx => (by cases hx)⟩,
      ⟨fun hb => ⟨[.v (.bool false)], rfl, rfl, fun Q hQ => hQ.2 (emOk_no 0 (by decide) hb)⟩, fun hb => ⟨by decide, fin 0 (by decide) hJ hb, by rw [wrap_add 0 (by decide)]; rfl, rfl⟩⟩⟩
  · refine ⟨.br ((((1 : Nat) : Int) != kind) && !e1) (.ret [some (.v (.bool false))] [⟨true, 56, .int .i64 kind :: cs'⟩, B1, B2, B3, B4, B5, B6, ⟨true, 4, [.bool e0, .bool e1, .bool e2, .bool e3, .bool e4]⟩]) (.norm [some (.v (.int .i64 (IntKind.i64.wrap (((1 : Nat) : Int) + 1)))), some (.s 7 0 5 5), some (.v (.int .i64 5)), some (.p 0 0), some (.v (.bool false))] [⟨true, 56, .int .i64 kind :: cs'⟩, B1, B2, B3, B4, B5, B6, ⟨true, 4, [.bool e0, .bool e1, .bool e2, .bool e3, .bool e4]⟩]), ⟨[], [], []⟩, by kernel_rfl, ⟨fun x hx => (by cases hx), fun x hx => (by cases hx), fun x hx => (by cases hx)⟩,
      ⟨fun hb => ⟨[.v (.bool false)], rfl, rfl, fun Q hQ => hQ.2 (emOk_no 1 (by decide) hb)⟩, fun hb => ⟨by decide, fin 1 (by decide) hJ hb, by rw [wrap_add 1 (by decide)]; rfl, rfl⟩⟩⟩
  · refine ⟨.br ((((2 : Nat) : Int) != kind) && !e2) (.ret [some (.v (.bool false))] [⟨true, 56, .int .i64 kind :: cs'⟩, B1, B2, B3, B4, B5, B6, ⟨true, 4, [.bool e0, .bool e1, .bool e2, .bool e3, .bool e4]⟩]) (.norm [some (.v (.int .i64 (IntKind.i64.wrap (((2 : Nat) : Int) + 1)))), some (.s 7 0 5 5), some (.v (.int .i64 5)), some (.p 0 0), some (.v (.bool false))] [⟨true, 56, .int .i64 kind :: cs'⟩, B1, B2, B3, B4, B5, B6, ⟨true, 4, [.bool e0, .bool e1, .bool e2, .bool e3, .bool e4]⟩]), ⟨[], [], []⟩, by kernel_rfl, ⟨fun x hx => (by cases hx), fun x hx => (by cases hx), fun x hx => (by cases hx)⟩,
      ⟨fun hb => ⟨[.v (.bool false)], rfl, rfl, fun Q hQ => hQ.2 (emOk_no 2 (by decide) hb)⟩, fun hb => ⟨by decide, fin 2 (by decide) hJ hb, by rw [wrap_add 2 (by decide)]; rfl, rfl⟩⟩⟩
  · refine ⟨.br ((((3 : Nat) : Int) != kind) && !e3) (.ret [some (.v (.bool false))] [⟨true, 56, .int .i64 kind :: cs'⟩, B1, B2, B3, B4, B5, B6, ⟨true, 4, [.bool e0, .bool e1, .bool e2, .bool e3, .bool e4]⟩]) (.norm [some (.v (.int .i64 (IntKind.i64.wrap (((3 : Nat) : Int) + 1)))), some (.s 7 0 5 5), some (.v (.int .i64 5)), some (.p 0 0), some (.v (.bool false))] [⟨true, 56, .int .i64 kind :: cs'⟩, B1, B2, B3, B4, B5, B6, ⟨true, 4, [.bool e0, .bool e1, .bool e2, .bool e3, .bool e4]⟩]), ⟨[], [], []⟩, by kernel_rfl, ⟨fun x hx => (by cases hx), fun x hx => (by cases hx), fun x hx => (by cases hx)⟩,
      ⟨fun hb => ⟨[.v (.bool false)], rfl, rfl, fun Q hQ => hQ.2 (emOk_no 3 (by decide) hb)⟩, fun hb => ⟨by decide, fin 3 (by decide) hJ hb, by rw [wrap_add 3 (by decide)]; rfl, rfl⟩⟩⟩
  · refine ⟨.br ((((4 : Nat) : Int) != kind) && !e4) (.ret [some (.v (.bool false))] [⟨true, 56, .int .i64 kind :: cs'⟩, B1, B2, B3, B4, B5, B6, ⟨true, 4, [.bool e0, .bool e1, .bool e2, .bool e3, .bool e4]⟩]) (.norm [some (.v (.int .i64 (IntKind.i64.wrap (((4 : Nat) : Int) + 1)))), some (.s 7 0 5 5), some (.v (.int .i64 5)), some (.p 0 0), some (.v (.bool false))] [⟨true, 56, .int .i64 kind :: cs'⟩, B1, B2, B3, B4, B5, B6, ⟨true, 4, [.bool e0, .bool e1, .bool e2, .bool e3, .bool e4]⟩]), ⟨[], [], []⟩, by kernel_rfl, ⟨fun x hx => (by cases hx), fun x hx => (by cases hx), fun x hx => (by cases hx)⟩,
      ⟨fun hb => ⟨[.v (.bool false)], rfl, rfl, fun Q hQ => hQ.2 (emOk_no 4 (by decide) hb)⟩, fun hb => ⟨by decide, fin 4 (by decide) hJ hb, by rw [wrap_add 4 (by decide)]; rfl, rfl⟩⟩⟩
  · refine ⟨.exit [] [⟨true, 56, .int .i64 kind :: cs'⟩, B1, B2, B3, B4, B5, B6, ⟨true, 4, [.bool e0, .bool e1, .bool e2, .bool e3, .bool e4]⟩], ⟨[], [], []⟩, by kernel_rfl, ⟨fun x hx => (by cases hx), fun x hx => (by cases hx), fun x hx => (by cases hx)⟩, [], rfl, rfl, fun Q hQ => ?_⟩
    exact hQ.1 (decide_eq_true fun i h => hJ i h h)
  · omega
structure ObSub (o : Ob) (W : World) : Prop where
  w : o.w.Ok W
  p : o.p.Ok W
  n : o.n.Ok W
  g : o.g.Ok W
  h : o.h.Ok W
set_option maxHeartbeats 4000000 in
set_option maxRecDepth 100000 in
theorem vempties_sub (o : Ob) (w : World) (ho : ObSub o w) : Calls Tryz.prog 49 #[.agg o.cells.toArray] w fun e w' => e = .returned (.bool (cemptyB o)) ∧ Below w.heap.size w w' := by
  obtain ⟨kind, name, version, ⟨w0, w1, w2, ⟨vw3, lw3⟩, ⟨vw4, lw4⟩, ⟨vw5, lw5⟩, w6⟩, ⟨p0, p1, p2, p3, p4, p5, ⟨vp6, lp6⟩, ⟨vp7, lp7⟩, ⟨vp8, lp8⟩, p9⟩, ⟨n0, n1, n2, ⟨vn3, ln3⟩, ⟨vn4, ln4⟩, n5, n6⟩, ⟨g0, g1, g2, g3, g4, ⟨vg5, lg5⟩, ⟨vg6, lg6⟩, g7⟩, ⟨h0, h1, h2, ⟨vh3, lh3⟩, h4, ⟨h5, h6, ⟨vh7, lh7⟩⟩, ⟨h8, h9, ⟨vh10, lh10⟩⟩, ⟨vh11, lh11⟩⟩⟩ := o
  obtain ⟨Aw3, cw3, rfl⟩ : ∃ A c, vw3 = .slice A lw3.length c := by obtain ⟨A, c, e, _⟩ := ho.w.labels.1; exact ⟨A, c, e⟩
  obtain ⟨Aw4, cw4, rfl⟩ : ∃ A c, vw4 = .slice A lw4.length c := by obtain ⟨A, c, e, _⟩ := ho.w.select.1; exact ⟨A, c, e⟩
  obtain ⟨Aw5, cw5, rfl⟩ : ∃ A c, vw5 = .slice A lw5.length c := by obtain ⟨A, c, e, _⟩ := ho.w.tolerate.1; exact ⟨A, c, e⟩
  obtain ⟨Ap6, cp6, rfl⟩ : ∃ A c, vp6 = .slice A lp6.length c := by obtain ⟨A, c, e, _⟩ := ho.p.labels.1; exact ⟨A, c, e⟩
  obtain ⟨Ap7, cp7, rfl⟩ : ∃ A c, vp7 = .slice A lp7.length c := by obtain ⟨A, c, e, _⟩ := ho.p.select.1; exact ⟨A, c, e⟩
  obtain ⟨Ap8, cp8, rfl⟩ : ∃ A c, vp8 = .slice A lp8.length c := by obtain ⟨A, c, e, _⟩ := ho.p.tolerate.1; exact ⟨A, c, e⟩
  obtain ⟨An3, cn3, rfl⟩ : ∃ A c, vn3 = .slice A ln3.length c := by obtain ⟨A, c, e, _⟩ := ho.n.labels.1; exact ⟨A, c, e⟩
  obtain ⟨An4, cn4, rfl⟩ : ∃ A c, vn4 = .slice A ln4.length c := by obtain ⟨A, c, e, _⟩ := ho.n.taints.1; exact ⟨A, c, e⟩
  obtain ⟨Ag5, cg5, rfl⟩ : ∃ A c, vg5 = .slice A lg5.length c := by obtain ⟨A, c, e, _⟩ := ho.g.labels.1; exact ⟨A, c, e⟩
  obtain ⟨Ag6, cg6, rfl⟩ : ∃ A c, vg6 = .slice A lg6.length c := by obtain ⟨A, c, e, _⟩ := ho.g.taints.1; exact ⟨A, c, e⟩
  obtain ⟨Ah3, ch3, rfl⟩ : ∃ A c, vh3 = .slice A lh3.length c := by obtain ⟨A, c, e, _⟩ := ho.h.metrics.1; exact ⟨A, c, e⟩
  obtain ⟨Ah7, ch7, rfl⟩ : ∃ A c, vh7 = .slice A lh7.length c := by obtain ⟨A, c, e, _⟩ := ho.h.up.policies.1; exact ⟨A, c, e⟩
  obtain ⟨Ah10, ch10, rfl⟩ : ∃ A c, vh10 = .slice A lh10.length c := by obtain ⟨A, c, e, _⟩ := ho.h.down.policies.1; exact ⟨A, c, e⟩
  obtain ⟨Ah11, ch11, rfl⟩ : ∃ A c, vh11 = .slice A lh11.length c := by obtain ⟨A, c, e, _⟩ := ho.h.past.1; exact ⟨A, c, e⟩
  refine px_calls (f := 49) (fn := Tryz.f49) (args := [.v (.agg (Ob.mk kind name version (⟨w0, w1, w2, ⟨.slice Aw3 lw3.length cw3, lw3⟩, ⟨.slice Aw4 lw4.length cw4, lw4⟩, ⟨.slice Aw5 lw5.length cw5, lw5⟩, w6⟩ : Wl) (⟨p0, p1, p2, p3, p4, p5, ⟨.slice Ap6 lp6.length cp6, lp6⟩, ⟨.slice Ap7 lp7.length cp7, lp7⟩, ⟨.slice Ap8 lp8.length cp8, lp8⟩, p9⟩ : Pd) (⟨n0, n1, n2, ⟨.slice An3 ln3.length cn3, ln3⟩, ⟨.slice An4 ln4.length cn4, ln4⟩, n5, n6⟩ : Nd) (⟨g0, g1, g2, g3, g4, ⟨.slice Ag5 lg5.length cg5, lg5⟩, ⟨.slice Ag6 lg6.length cg6, lg6⟩, g7⟩ : Gr) (⟨h0, h1, h2, ⟨.slice Ah3 lh3.length ch3, lh3⟩, h4, ⟨h5, h6, ⟨.slice Ah7 lh7.length ch7, lh7⟩⟩, ⟨h8, h9, ⟨.slice Ah10 lh10.length ch10, lh10⟩⟩, ⟨.slice Ah11 lh11.length ch11, lh11⟩⟩ : Hp)).cells.toArray)]) (B := []) (ρ0 := fun _ => (0, 0)) (H := emHyp Tryz.prog aggR w (cnoL h5 h6 lh7.length) (cnoL h8 h9 lh10.length) (emOk kind (eAt (emW w0 w1 w2 lw3.length lw4.length lw5.length w6) (emP p0 p1 p2 p3 p4 p5 lp6.length lp7.length lp8.length p9) (emN n0 n1 n2 ln3.length ln4.length n5 n6) (emG g0 g1 g2 g3 g4 lg5.length lg6.length g7) (ceH h0 h1 h2 lh3.length lh11.length h4 (cnoL h5 h6 lh7.length) (cnoL h8 h9 lh10.length)))) [⟨true, 56, [.int .i64 kind, .string name, .int .u64 version, .int .i64 w0, .int .i64 w1, .int .i64 w2, .slice Aw3 lw3.length cw3, .slice Aw4 lw4.length cw4, .slice Aw5 lw5.length cw5, .int .i64 w6, .string p0, .string p1, .int .i64 p2, .int .i64 p3, .int .i64 p4, .int .i64 p5, .slice Ap6 lp6.length cp6, .slice Ap7 lp7.length cp7, .slice Ap8 lp8.length cp8, .int .i64 p9, .string n0, .int .i64 n1, .int .i64 n2, .slice An3 ln3.length cn3, .slice An4 ln4.length cn4, .int .i64 n5, .bool n6, .int .i64 g0, .int .i64 g1, .int .i64 g2, .int .i64 g3, .int .i64 g4, .slice Ag5 lg5.length cg5, .slice Ag6 lg6.length cg6, .int .i64 g7, .string h0, .int .i64 h1, .int .i64 h2, .slice Ah3 lh3.length ch3, .int .i64 h4, .int .i64 h5, .int .i64 h6, .slice Ah7 lh7.length ch7, .int .i64 h8, .int .i64 h9, .slice Ah10 lh10.length ch10, .slice Ah11 lh11.length ch11]⟩, ⟨true, 54, [.string h0, .int .i64 h1, .int .i64 h2, .slice Ah3 lh3.length ch3, .int .i64 h4, .int .i64 h5, .int .i64 h6, .slice Ah7 lh7.length ch7, .int .i64 h8, .int .i64 h9, .slice Ah10 lh10.length ch10, .slice Ah11 lh11.length ch11]⟩, ⟨true, 47, [.int .i64 g0, .int .i64 g1, .int .i64 g2, .int .i64 g3, .int .i64 g4, .slice Ag5 lg5.length cg5, .slice Ag6 lg6.length cg6, .int .i64 g7]⟩, ⟨true, 45, [.string n0, .int .i64 n1, .int .i64 n2, .slice An3 ln3.length cn3, .slice An4 ln4.length cn4, .int .i64 n5, .bool n6]⟩, ⟨true, 43, [.string p0, .string p1, .int .i64 p2, .int .i64 p3, .int .i64 p4, .int .i64 p5, .slice Ap6 lp6.length cp6, .slice Ap7 lp7.length cp7, .slice Ap8 lp8.length cp8, .int .i64 p9]⟩, ⟨true, 41, [.int .i64 w0, .int .i64 w1, .int .i64 w2, .slice Aw3 lw3.length cw3, .slice Aw4 lw4.length cw4, .slice Aw5 lw5.length cw5, .int .i64 w6]⟩, ⟨true, 37, [.int .i64 0, .int .i64 0]⟩, ⟨true, 4, [ .bool (emW w0 w1 w2 lw3.length lw4.length lw5.length w6),  .bool (emP p0 p1 p2 p3 p4 p5 lp6.length lp7.length lp8.length p9), .bool (emN n0 n1 n2 ln3.length ln4.length n5 n6), .bool (emG g0 g1 g2 g3 g4 lg5.length lg6.length g7), .bool (ceH h0 h1 h2 lh3.length lh11.length h4 (cnoL h5 h6 lh7.length) (cnoL h8 h9 lh10.length))]⟩]) aggR_ok (fun _ _ _ _ h => h) (by kernel_rfl) Tryz.func49 rfl (by kernel_rfl) (by show (1 : Nat) ≤ 212; decide) rfl (by simp [SV.lt]) trivial (Nat.le_refl _) (fun i b hb => by simp at hb) (fun _ => [198, 196, 197, 1, 2])
    ⟨[.call 78 [.v (.agg #[.int .i64 h5, .int .i64 h6, .slice Ah7 lh7.length ch7])] (.v (.bool (cnoL h5 h6 lh7.length))), .call 78 [.v (.agg #[.int .i64 h8, .int .i64 h9, .slice Ah10 lh10.length ch10])] (.v (.bool (cnoL h8 h9 lh10.length)))],
      [(0, .loop (loopBody Tryz.f49 0), [some (.v (.int .i64 0)), some (.s 7 0 5 5), some (.v (.int .i64 5)), some (.p 0 0), some (.v (.bool false))], [⟨true, 56, [.int .i64 kind, .string name, .int .u64 version, .int .i64 w0, .int .i64 w1, .int .i64 w2, .slice Aw3 lw3.length cw3, .slice Aw4 lw4.length cw4, .slice Aw5 lw5.length cw5, .int .i64 w6, .string p0, .string p1, .int .i64 p2, .int .i64 p3, .int .i64 p4, .int .i64 p5, .slice Ap6 lp6.length cp6, .slice Ap7 lp7.length cp7, .slice Ap8 lp8.length cp8, .int .i64 p9, .string n0, .int .i64 n1, .int .i64 n2, .slice An3 ln3.length cn3, .slice An4 ln4.length cn4, .int .i64 n5, .bool n6, .int .i64 g0, .int .i64 g1, .int .i64 g2, .int .i64 g3, .int .i64 g4, .slice Ag5 lg5.length cg5, .slice Ag6 lg6.length cg6, .int .i64 g7, .string h0, .int .i64 h1, .int .i64 h2, .slice Ah3 lh3.length ch3, .int .i64 h4, .int .i64 h5, .int .i64 h6, .slice Ah7 lh7.length ch7, .int .i64 h8, .int .i64 h9, .slice Ah10 lh10.length ch10, .slice Ah11 lh11.length ch11]⟩, ⟨true, 54, [.string h0, .int .i64 h1, .int .i64 h2, .slice Ah3 lh3.length ch3, .int .i64 h4, .int .i64 h5, .int .i64 h6, .slice Ah7 lh7.length ch7, .int .i64 h8, .int .i64 h9, .slice Ah10 lh10.length ch10, .slice Ah11 lh11.length ch11]⟩, ⟨true, 47, [.int .i64 g0, .int .i64 g1, .int .i64 g2, .int .i64 g3, .int .i64 g4, .slice Ag5 lg5.length cg5, .slice Ag6 lg6.length cg6, .int .i64 g7]⟩, ⟨true, 45, [.string n0, .int .i64 n1, .int .i64 n2, .slice An3 ln3.length cn3, .slice An4 ln4.length cn4, .int .i64 n5, .bool n6]⟩, ⟨true, 43, [.string p0, .string p1, .int .i64 p2, .int .i64 p3, .int .i64 p4, .int .i64 p5, .slice Ap6 lp6.length cp6, .slice Ap7 lp7.length cp7, .slice Ap8 lp8.length cp8, .int .i64 p9]⟩, ⟨true, 41, [.int .i64 w0, .int .i64 w1, .int .i64 w2, .slice Aw3 lw3.length cw3, .slice Aw4 lw4.length cw4, .slice Aw5 lw5.length cw5, .int .i64 w6]⟩, ⟨true, 37, [.int .i64 0, .int .i64 0]⟩, ⟨true, 4, [ .bool (emW w0 w1 w2 lw3.length lw4.length lw5.length w6),  .bool (emP p0 p1 p2 p3 p4 p5 lp6.length lp7.length lp8.length p9), .bool (emN n0 n1 n2 ln3.length ln4.length n5 n6), .bool (emG g0 g1 g2 g3 g4 lg5.length lg6.length g7), .bool (ceH h0 h1 h2 lh3.length lh11.length h4 (cnoL h5 h6 lh7.length) (cnoL h8 h9 lh10.length))]⟩])], []⟩ [.v (pickV (emOk kind (eAt (emW w0 w1 w2 lw3.length lw4.length lw5.length w6) (emP p0 p1 p2 p3 p4 p5 lp6.length lp7.length lp8.length p9) (emN n0 n1 n2 ln3.length ln4.length n5 n6) (emG g0 g1 g2 g3 g4 lg5.length lg6.length g7) (ceH h0 h1 h2 lh3.length lh11.length h4 (cnoL h5 h6 lh7.length) (cnoL h8 h9 lh10.length)))) (.bool true) (.bool false))] (by kernel_rfl) ⟨?_, fun q hq => ?_, fun p hp => (by cases hp)⟩ (fun ρ w' _ hb => ⟨?_, hb⟩)
  · exact paid2_cons (fun ρ _ w1 hb => vnothing_any ⟨h5, h6, ⟨.slice Ah7 lh7.length ch7, lh7⟩⟩ w1 (ho.h.up.below hb)) (paid2_cons (fun ρ _ w1 hb => vnothing_any ⟨h8, h9, ⟨.slice Ah10 lh10.length ch10, lh10⟩⟩ w1 (ho.h.down.below hb)) paid2_nil)
  · rw [List.mem_singleton.1 hq]
    exact emloop w kind _ _ _ _ _ _ _ _ _ _ _ _ _ _ rfl
  · rw [res_bool]
    rfl
theorem vempties_any (o : Ob) (w : World) (ho : o.Ok w) : Calls Tryz.prog 49 #[.agg o.cells.toArray] w fun e w' => e = .returned (.bool (cemptyB o)) ∧ Below w.heap.size w w' := vempties_sub o w ⟨ho.w, ho.p, ho.n, ho.g, ho.h⟩
end Go.Proofs.YtlhaiflebigdlaaGreat
end
