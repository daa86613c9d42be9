/-
  A symbolic executor for regions that only read and call (guards, '&&' and '||' at once on both ways), computed by the kernel, and its soundness against the walk's own words; The symbolic executor over regions and code: soundness.; The symbolic executor: how it is begun and ended; comparisons of resources.; The symbolic executor with memory of the call's own (variables made, stored into, read), plain regions one operation behind the other, drawn ones that only read and call; loops by an annotation that is owed; The symbolic executor: a drawn region that makes variables side by side ('a, b := x, y' with variables in memory).; The symbolic executor: a drawn region whose first operations read and whose last ones, in their forced order, call and make memory.; The symbolic executor over code, with memory of the call's own, and with loops that are annotated: what a loop needs and how it is left is owed
-/
import Derived.Test.YtcbnmoghjhljbaaGreatCBKps1
import Derived.Test.YtcbnmoghjhljbaaGreatProg
import Derived.Laws.StructEq
import Derived.WalkKit
import Derived.Great.BuildSlice
import Derived.Laws.IdiomCopy
section
namespace Go.Proofs.Mem
open Go.RowKit
set_option linter.unusedVariables false
set_option linter.unusedSimpArgs false
def peek {α : Type} (P : Program) : Sem α → Option α
  | .pure a => some a
  | .program k => peek P (k P)
  | .mark _ k => peek P k
  | _ => none
theorem peek_run {α : Type} (P : Program) (w : World) : ∀ (s : Sem α) (v : α), peek P s = some v → s.run P w = .ok v w
  | .pure a, v, h => by simp only [peek, Option.some.injEq] at h; subst h; rfl
  | .program k, v, h => by
    have := peek_run P w (k P) v h
    simpa [Sem.run] using this
  | .mark m k, v, h => by
    have := peek_run P w k v h
    simpa [Sem.run] using this
  | .load .., v, h => by cases h
  | .store .., v, h => by cases h
  | .new .., v, h => by cases h
  | .shape .., v, h => by cases h
  | .freeze .., v, h => by cases h
  | .frozen .., v, h => by cases h
  | .getObj .., v, h => by cases h
  | .setObj .., v, h => by cases h
  | .choose .., v, h => by cases h
  | .sys .., v, h => by cases h
  | .halt .., v, h => by cases h
inductive SV where
  | v (x : Value)
  | p (i o : Nat)
  | s (i o n c : Nat)
def SV.den (ρ : Nat → Nat × Nat) : SV → Value
  | .v x => x
  | .p i o => .pointer (some ⟨(ρ i).1, (ρ i).2 + o, none⟩)
  | .s i o n c => .slice (some ⟨(ρ i).1, (ρ i).2 + o, none⟩) n c
structure PSt where
  sv : SV
  g : Option (Nat × Bool)
abbrev PF := List (Nat × PSt)
def PF.get : PF → Nat → Option PSt
  | [], _ => none
  | (k, s) :: r, t => match Nat.beq k t with
    | true => some s
    | false => PF.get r t
def PSt.ok (ρ : Nat → Nat × Nat) (R : Array Value) (t : Nat) (s : PSt) : Prop := match s.g with
  | none => R.getD t undef = s.sv.den ρ
  | some (j, b) => (R.getD j undef = .bool b ∧ R.getD t undef = s.sv.den ρ) ∨ (R.getD j undef ≠ .bool b ∧ R.getD t undef = undef)
def PF.Ok (ρ : Nat → Nat × Nat) (F : PF) (R : Array Value) : Prop := ∀ t s, F.get t = some s → s.ok ρ R t
def gEq (a b : Nat × Bool) : Bool := Nat.beq a.1 b.1 && (a.2 == b.2)
theorem gEq_eq {a b : Nat × Bool} (h : gEq a b = true) : a = b := by
  unfold gEq at h
  simp only [Bool.and_eq_true, beq_iff_eq] at h
  exact Prod.ext (Nat.eq_of_beq_eq_true h.1) h.2
def gHas : List (Nat × Bool) → Nat × Bool → Bool
  | [], _ => false
  | g :: r, h => match gEq g h with
    | true => true
    | false => gHas r h
theorem gHas_mem : ∀ {l : List (Nat × Bool)} {g : Nat × Bool}, gHas l g = true → g ∈ l
  | [], g, h => by cases h
  | x :: r, g, h => by
    unfold gHas at h
    cases hx : gEq x g with
    | true => rw [gEq_eq hx]; exact List.mem_cons_self
    | false => rw [hx] at h; exact List.mem_cons_of_mem _ (gHas_mem h)
def pxTmp (F : PF) (gs : List (Nat × Bool)) (t : Nat) : Option SV := match F.get t with
  | none => none
  | some ⟨sv, none⟩ => some sv
  | some ⟨sv, some g⟩ => match gHas gs g with
    | true => some sv
    | false => none
def pxOpd (F : PF) (gs : List (Nat × Bool)) : Operand → Option SV
  | .tmp t => pxTmp F gs t
  | .const v => some (.v v)
  | .func f => some (.v (.func (.func f) #[] #[]))
  | _ => none
def GOk (R : Array Value) (gs : List (Nat × Bool)) : Prop := ∀ g ∈ gs, R.getD g.1 undef = .bool g.2
theorem pxTmp_ok {ρ : Nat → Nat × Nat} {F : PF} {R : Array Value} {gs : List (Nat × Bool)} (hF : F.Ok ρ R) (hg : GOk R gs) {t : Nat} {sv : SV} (h : pxTmp F gs t = some sv) : R.getD t undef = sv.den ρ := by
  unfold pxTmp at h
  cases hs : F.get t with
  | none => rw [hs] at h; cases h
  | some s =>
    rw [hs] at h
    have ho := hF t s hs
    obtain ⟨sv', g⟩ := s
    cases g with
    | none => simp only [Option.some.injEq] at h; subst h; exact ho
    | some g =>
      cases hh : gHas gs g with
      | false => simp [hh] at h
      | true =>
        simp [hh] at h
        subst h
        have h1 := hg g (gHas_mem hh)
        rcases ho with ⟨_, h2⟩ | ⟨h2, _⟩
        · exact h2
        · exact absurd h1 h2
theorem pxOpd_ok {ρ : Nat → Nat × Nat} {F : PF} {a : Act} {gs : List (Nat × Bool)} (hF : F.Ok ρ a.tmps) (hg : GOk a.tmps gs) {x : Operand} {sv : SV} (h : pxOpd F gs x = some sv) : a.eval x = sv.den ρ := by
  cases x with
  | tmp t => exact pxTmp_ok hF hg h
  | const v => simp only [pxOpd, Option.some.injEq] at h; subst h; rfl
  | global g => cases h
  | func f => simp only [pxOpd, Option.some.injEq] at h; subst h; rfl
def gchain (F : PF) : Nat → Nat → List (Nat × Bool)
  | 0, _ => []
  | n + 1, t => match F.get t with
    | some ⟨_, some g⟩ => g :: gchain F n g.1
    | _ => []
theorem gchain_ok {ρ : Nat → Nat × Nat} {F : PF} {R : Array Value} (hF : F.Ok ρ R) : ∀ (n t : Nat) (b : Bool), R.getD t undef = .bool b → GOk R (gchain F n t)
  | 0, _, _, _ => fun g hg => by cases hg
  | n + 1, t, b, h => by
    unfold gchain
    cases hs : F.get t with
    | none => intro g hg; cases hg
    | some s =>
      obtain ⟨sv, g⟩ := s
      cases g with
      | none => intro g hg; cases hg
      | some g =>
        have ho := hF t _ hs
        have h1 : R.getD g.1 undef = .bool g.2 := by
          rcases ho with ⟨h1, _⟩ | ⟨_, h2⟩
          · exact h1
          · rw [h] at h2; cases h2
        intro x hx
        rcases List.mem_cons.1 hx with rfl | hx
        · exact h1
        · exact gchain_ok hF n g.1 g.2 h1 x hx
def pickV (b : Bool) (x y : Value) : Value := match x, y with
  | .bool p, .bool q => .bool (match b with | true => p | false => q)
  | x, y => match b with
    | true => x
    | false => y
theorem pickV_eq (b : Bool) (x y : Value) : pickV b x y = if b then x else y := by
  unfold pickV
  split <;> cases b <;> rfl
def pxVals : List SV → Option (List Value)
  | [] => some []
  | .v x :: r => match pxVals r with
    | some l => some (x :: l)
    | none => none
  | .p _ _ :: _ => none
  | .s _ _ _ _ :: _ => none
theorem pxVals_ok {ρ : Nat → Nat × Nat} : ∀ {l : List SV} {vs : List Value}, pxVals l = some vs → l.map (SV.den ρ) = vs
  | [], vs, h => by simp only [pxVals, Option.some.injEq] at h; subst h; rfl
  | .v x :: r, vs, h => by
    unfold pxVals at h
    cases hr : pxVals r with
    | none => rw [hr] at h; cases h
    | some l =>
      rw [hr] at h
      simp only [Option.some.injEq] at h
      subst h
      rw [List.map_cons, pxVals_ok hr]
      rfl
  | .p _ _ :: _, vs, h => by cases h
  | .s _ _ _ _ :: _, vs, h => by cases h
def pxArgs (F : PF) (gs : List (Nat × Bool)) : List Operand → Option (List SV)
  | [] => some []
  | x :: r => match pxOpd F gs x with
    | none => none
    | some s => match pxArgs F gs r with
      | none => none
      | some l => some (s :: l)
theorem pxArgs_ok {ρ : Nat → Nat × Nat} {F : PF} {a : Act} {gs : List (Nat × Bool)} (hF : F.Ok ρ a.tmps) (hg : GOk a.tmps gs) : ∀ {xs : List Operand} {l : List SV}, pxArgs F gs xs = some l → xs.map a.eval = l.map (SV.den ρ)
  | [], l, h => by simp only [pxArgs, Option.some.injEq] at h; subst h; rfl
  | x :: r, l, h => by
    unfold pxArgs at h
    cases hx : pxOpd F gs x with
    | none => rw [hx] at h; cases h
    | some s =>
      rw [hx] at h
      cases hr : pxArgs F gs r with
      | none => rw [hr] at h; cases h
      | some l' =>
        rw [hr] at h
        simp only [Option.some.injEq] at h
        subst h
        rw [List.map_cons, List.map_cons, pxArgs_ok hF hg hr, pxOpd_ok hF hg hx]
def pxOff (P : Program) (T : TypeId) (f : Nat) : Option Nat := match P.underlying T with
  | some (.struct fs) => match fs[f]? with
    | some fl => match P.info? fl.type with
      | some i => match i.size with
        | 0 => none
        | _ + 1 => some fl.offset
      | none => none
    | none => none
  | _ => none
theorem pxOff_run {P : Program} {T : TypeId} {f k : Nat} (h : pxOff P T f = some k) (b o : Nat) (w : World) : (Instr.fieldAt T (.pointer (some ⟨b, o, none⟩)) f).run P w = .ok (.pointer (some ⟨b, o + k, none⟩)) w := by
  unfold pxOff at h
  cases hu : P.underlying T with
  | none => rw [hu] at h; cases h
  | some d =>
    rw [hu] at h
    cases d with
    | struct fs =>
      simp only at h
      cases hf : fs[f]? with
      | none => rw [hf] at h; cases h
      | some fl =>
        rw [hf] at h
        simp only at h
        cases hi : P.info? fl.type with
        | none => rw [hi] at h; cases h
        | some i =>
          rw [hi] at h
          simp only at h
          cases hs : i.size with
          | zero => rw [hs] at h; cases h
          | succ m =>
            rw [hs] at h
            simp only [Option.some.injEq] at h
            subst h
            unfold Instr.fieldAt
            simp only [Sem.run_bind, run_underlying hu w, Result.andThen_ok, hf, Instr.sureAddr, Sem.run_pure, fieldPlace, sizeOf, typeInfo]
            simp [program, Sem.run, hi, hs, Sem.run_pure, add_lit, Result.andThen_ok]
    | _ => cases h
def pxLoad (P : Program) (B : List (List Value)) (T : TypeId) (i o : Nat) : Option SV := match B[i]? with
  | none => none
  | some cells => match P.underlying T with
    | none => none
    | some d => match d.isRow with
      | false => match cells[o]? with
        | some v => some (.v v)
        | none => none
      | true => match P.info? T with
        | none => none
        | some inf => match Nat.beq ((cells.drop o).take inf.size).length inf.size with
          | true => some (.v (.agg ((cells.drop o).take inf.size).toArray))
          | false => none
theorem pxLoad_run {P : Program} {ρ : Nat → Nat × Nat} {B : List (List Value)} {T : TypeId} {i o : Nat} {sv : SV} (h : pxLoad P B T i o = some sv) (w : World) (hB : ∀ i cells, B[i]? = some cells → w.rangeAt (ρ i).1 (ρ i).2 cells) :
    (Instr.loadAt T (.pointer (some ⟨(ρ i).1, (ρ i).2 + o, none⟩))).run P w = .ok (sv.den ρ) w := by
  unfold pxLoad at h
  cases hb : B[i]? with
  | none => rw [hb] at h; cases h
  | some cells =>
    rw [hb] at h
    have hr := hB i cells hb
    simp only at h
    cases hu : P.underlying T with
    | none => rw [hu] at h; cases h
    | some d =>
      rw [hu] at h
      simp only at h
      cases hd : d.isRow with
      | false =>
        rw [hd] at h
        simp only at h
        cases hc : cells[o]? with
        | none => rw [hc] at h; cases h
        | some v =>
          rw [hc] at h
          simp only [Option.some.injEq] at h
          subst h
          have h1 := hr o v hc
          have hagg : (isAgg T).run P w = .ok false w := by
            unfold isAgg
            rw [Sem.run_bind, run_underlying hu w]
            cases d <;> first | rfl | cases hd
          unfold Instr.loadAt loadVar
          simp only [Instr.sureAddr, Sem.run_bind, Sem.run_pure, Result.andThen_ok, hagg, Bool.false_eq_true, if_false]
          unfold load
          simp only [Sem.run, h1, SV.den]
      | true =>
        rw [hd] at h
        simp only at h
        cases hi : P.info? T with
        | none => rw [hi] at h; cases h
        | some inf =>
          rw [hi] at h
          simp only at h
          cases hl : Nat.beq ((cells.drop o).take inf.size).length inf.size with
          | false => rw [hl] at h; cases h
          | true =>
            rw [hl] at h
            simp only [Option.some.injEq] at h
            subst h
            have hlen := Nat.eq_of_beq_eq_true hl
            refine run_loadAt_mid w (ρ i).1 ((ρ i).2 + o) T ((cells.drop o).take inf.size) d ?_ hu hd (by rw [hi, hlen]; rfl)
            intro j v hj
            have hjl : j < inf.size := by rw [← hlen]; exact (List.getElem?_eq_some_iff.1 hj).1
            rw [List.getElem?_take_of_lt hjl, List.getElem?_drop] at hj
            have := hr (o + j) v hj
            rwa [← Nat.add_assoc] at this
structure PE where
  P : Program
  B : List (List Value)
  agg : BinOp → TypeId → Array Value → Array Value → Option Value
  call : Nat → Option SV
  n : Nat
  gl : Nat → Bool
inductive Owed where
  | call (f : FuncId) (args : List SV) (res : SV)
  | op (s : (Nat → Nat × Nat) → Sem Next) (res : SV)
structure PE.Ok (E : PE) (C : World → Prop) (ρ : Nat → Nat × Nat) : Prop where
  blocks : ∀ w, C w → ∀ i cells, E.B[i]? = some cells → w.rangeAt (ρ i).1 (ρ i).2 cells
  agg : ∀ op T xs ys v, E.agg op T xs ys = some v → ∀ x y w, (do eqGuard op T x y (.agg xs) (.agg ys); binOp op T (.agg xs) (.agg ys) : Sem Value).run E.P w = .ok v w
def Owed.paid (E : PE) (C : World → Prop) (ρ : Nat → Nat × Nat) : Owed → Prop
  | .call f args res => ∀ w, C w → Calls E.P f (args.map (SV.den ρ)).toArray w (fun e w' => e = .returned (res.den ρ) ∧ C w')
  | .op s res => ∀ w, C w → (s ρ).run E.P w = .ok (.value (res.den ρ)) w
def pxEv (F : PF) (gs : List (Nat × Bool)) (ρ : Nat → Nat × Nat) (x : Operand) : Value := match pxOpd F gs x with
  | some s => s.den ρ
  | none => undef
def pxKnown (F : PF) (gs : List (Nat × Bool)) : List Operand → Bool
  | [] => true
  | x :: r => match pxOpd F gs x with
    | some _ => pxKnown F gs r
    | none => false
theorem pxKnown_spec {F : PF} {gs : List (Nat × Bool)} : ∀ {l : List Operand}, pxKnown F gs l = true → ∀ x ∈ l, ∃ s, pxOpd F gs x = some s
  | [], _, x, hx => by cases hx
  | y :: r, h, x, hx => by
    unfold pxKnown at h
    cases hy : pxOpd F gs y with
    | none => rw [hy] at h; cases h
    | some s =>
      rw [hy] at h
      rcases List.mem_cons.1 hx with rfl | hx
      · exact ⟨s, hy⟩
      · exact pxKnown_spec h x hx
def notSelect : Op → Bool
  | .select _ _ => false
  | _ => true
def pxElse (E : PE) (F : PF) (gs : List (Nat × Bool)) (o : Oper) : Option SV := match E.call (o.dst.getD 0) with
  | none => none
  | some sv => match notSelect o.op && pxKnown F gs o.op.operands.toList with
    | true => some sv
    | false => none
def pxBin (E : PE) (op : BinOp) (T : TypeId) (x y : Operand) (a b : Value) : Option SV := match a, b with
  | .agg xs, .agg ys => match E.agg op T xs ys with
    | some v => some (.v v)
    | none => none
  | a, b => match peek E.P (do eqGuard op T x y a b; binOp op T a b : Sem Value) with
    | some v => some (.v v)
    | none => none
def fnOf : Option SV → Option (FuncId × List Value × List Value)
  | some (.v (.func (.func f) pre cap)) => some (f, pre.toList, cap.toList)
  | _ => none
theorem fnOf_spec {x : Option SV} {f : FuncId} {pre cap : List Value} (h : fnOf x = some (f, pre, cap)) : x = some (.v (.func (.func f) pre.toArray cap.toArray)) := by
  unfold fnOf at h
  split at h
  · simp only [Option.some.injEq, Prod.mk.injEq] at h
    obtain ⟨rfl, rfl, rfl⟩ := h
    rfl
  · cases h
def pxLen (P : Program) (ts : Array TypeId) (ty : TypeId) (svs : List SV) : Option Value := match svs with
  | [.s _ _ n _] => match ts[0]? with
    | some t => match P.underlying t with
      | some (.slice _) => some (goInt n)
      | _ => none
    | none => none
  | svs => match pxVals svs with
    | some vs => peek P (Builtin.len_ ts ty vs.toArray)
    | none => none
theorem pxLen_run {P : Program} {ts : Array TypeId} {ty : TypeId} {svs : List SV} {v : Value} {ρ : Nat → Nat × Nat} (h : pxLen P ts ty svs = some v) (w : World) : (Builtin.len_ ts ty (svs.map (SV.den ρ)).toArray).run P w = .ok v w := by
  unfold pxLen at h
  split at h
  · rename_i i b n c
    cases ht : ts[0]? with
    | none => rw [ht] at h; cases h
    | some t =>
      rw [ht] at h
      simp only at h
      split at h
      · rename_i e hu
        simp only [Option.some.injEq] at h
        subst h
        unfold Builtin.len_
        simp [ht, SV.den, Sem.run_bind, run_underlying hu, Result.andThen_ok, Sem.run_pure]
      · cases h
  · cases hvs : pxVals svs with
    | none => rw [hvs] at h; cases h
    | some vs =>
      rw [hvs] at h
      rw [pxVals_ok hvs]
      exact peek_run _ w _ _ h
def pxIdx (P : Program) (T : TypeId) (s k : Option SV) : Option SV := match s with
  | some (.s i b n c) => match k with
    | some (.v (.int K (.ofNat j))) => match P.underlying T with
      | some (.slice e) => match P.info? e with
        | some inf => match Nat.blt j n with
          | true => some (.p i (b + j * inf.size))
          | false => none
        | none => none
      | _ => none
    | _ => none
  | _ => none
theorem pxIdx_run {P : Program} {T : TypeId} {s k sv : SV} {ρ : Nat → Nat × Nat} (h : pxIdx P T (some s) (some k) = some sv) (w : World) : (Instr.indexAt T (s.den ρ) (k.den ρ)).run P w = .ok (sv.den ρ) w := by
  unfold pxIdx at h
  split at h
  · rename_i i b n c hs
    simp only [Option.some.injEq] at hs
    subst hs
    split at h
    · rename_i K j hk
      simp only [Option.some.injEq] at hk
      subst hk
      split at h
      · rename_i e hu
        cases hi : P.info? e with
        | none => rw [hi] at h; cases h
        | some inf =>
          rw [hi] at h
          simp only at h
          cases hb : Nat.blt j n with
          | false => rw [hb] at h; cases h
          | true =>
            rw [hb] at h
            simp only [Option.some.injEq] at h
            subst h
            have hj : j < n := Nat.le_of_ble_eq_true hb
            have h1 : (0 : Int) ≤ Int.ofNat j ∧ Int.ofNat j < (n : Int) := ⟨Int.natCast_nonneg _, Int.ofNat_lt.2 hj⟩
            unfold Instr.indexAt
            simp only [asIntOf, SV.den, Sem.run_bind, Sem.run_pure, Result.andThen_ok, run_underlying hu, h1, and_self, if_true, sizeOf, typeInfo]
            simp [program, Sem.run, hi, add_lit, Result.andThen_ok, Sem.run_pure, Nat.add_assoc]
      · cases h
    · cases h
  · cases h
def oV : Option Value → Option SV
  | some v => some (.v v)
  | none => none
def pxOp (E : PE) (F : PF) (gs : List (Nat × Bool)) (o : Oper) : Option SV := match o.op with
  | .move x => pxOpd F gs x
  | .assign x => pxOpd F gs x
  | .nilCheck x => match pxOpd F gs x with
    | some (.p i k) => some (.p i k)
    | _ => none
  | .fieldAddr T x f => match pxOpd F gs x with
    | some (.p i k) => match pxOff E.P T f with
      | some d => some (.p i (k + d))
      | none => none
    | _ => none
  | .load T x => match pxOpd F gs x with
    | some (.p i k) => pxLoad E.P E.B T i k
    | _ => none
  | .pick c x y => match c with
    | .tmp s => match pxTmp F gs s with
      | some (.v (.bool b)) => match pxOpd F ((s, true) :: gs) x, pxOpd F ((s, false) :: gs) y with
        | some (.v vx), some (.v vy) => some (.v (pickV b vx vy))
        | _, _ => none
      | _ => none
    | _ => none
  | .binOp op T x y _ => match pxOpd F gs x, pxOpd F gs y with
    | some (.v a), some (.v b) => pxBin E op T x y a b
    | _, _ => none
  | .unOp op _ x => match pxOpd F gs x with
    | some (.v a) => oV (peek E.P (Op.unary op a))
    | _ => none
  | .convert s d x => match pxOpd F gs x with
    | some (.v a) => oV (peek E.P (convert s d a))
    | _ => none
  | .build T ps => match ps.toList with
    | [] => oV (peek E.P (Instr.build T #[]))
    | _ => none
  | .call c => match c.callee with
    | .value (.func f) => match pxArgs F gs c.args.toList with
      | some svs => match E.call (o.dst.getD 0) with
        | some sv => match (match E.P.funcs[f]? with | some fn => !(fn.name == "runtime.NumGoroutine") && fn.body.isSome | none => false) with
          | true => some sv
          | false => none
        | none => none
      | none => none
    | .value (.tmp s) => match fnOf (pxTmp F gs s) with
      | some (f, pre, cap) => match pxArgs F gs c.args.toList with
        | some svs => match E.call (o.dst.getD 0) with
          | some sv => match (match E.P.funcs[f]? with | some fn => !(fn.name == "runtime.NumGoroutine") && fn.body.isSome | none => false) with
            | true => some sv
            | false => none
          | none => none
        | none => none
      | none => none
    | .builtin .len => match pxArgs F gs c.args.toList with
      | some svs => oV (pxLen E.P c.argTypes o.type svs)
      | none => none
    | _ => pxElse E F gs o
  | .indexAddr T x y => match E.call (o.dst.getD 0) with
    | some _ => pxElse E F gs o
    | none => pxIdx E.P T (pxOpd F gs x) (pxOpd F gs y)
  | _ => pxElse E F gs o
def pxOwes (E : PE) (F : PF) (gs : List (Nat × Bool)) (o : Oper) : List Owed := match o.op with
  | .call c => match c.callee with
    | .value (.func f) => match pxArgs F gs c.args.toList with
      | some svs => match E.call (o.dst.getD 0) with
        | some sv => [.call f svs sv]
        | none => []
      | none => []
    | .value (.tmp s) => match fnOf (pxTmp F gs s) with
      | some (f, pre, cap) => match pxArgs F gs c.args.toList with
        | some svs => match E.call (o.dst.getD 0) with
          | some sv => [.call f (pre.map .v ++ svs ++ cap.map .v) sv]
          | none => []
        | none => []
      | none => []
    | .builtin .len => []
    | _ => match E.call (o.dst.getD 0) with
      | some sv => [.op (fun ρ => execOp (pxEv F gs ρ) o) sv]
      | none => []
  | _ => match E.call (o.dst.getD 0) with
    | some sv => [.op (fun ρ => execOp (pxEv F gs ρ) o) sv]
    | none => []
theorem pxElse_ok {E : PE} {C : World → Prop} {ρ : Nat → Nat × Nat} {F : PF} {a : Act} {gs : List (Nat × Bool)} (hF : F.Ok ρ a.tmps) (hg : GOk a.tmps gs) {o : Oper} {sv : SV} (h : pxElse E F gs o = some sv)
    (hO : ∀ sv', E.call (o.dst.getD 0) = some sv' → (Owed.op (fun ρ => execOp (pxEv F gs ρ) o) sv').paid E C ρ) (w : World) (hw : C w) : (execOp a.eval o).run E.P w = .ok (.value (sv.den ρ)) w := by
  unfold pxElse at h
  cases hc : E.call (o.dst.getD 0) with
  | none => rw [hc] at h; cases h
  | some sv' =>
    rw [hc] at h
    simp only at h
    cases hk : notSelect o.op && pxKnown F gs o.op.operands.toList with
    | false => rw [hk] at h; cases h
    | true =>
      rw [hk] at h
      simp only [Option.some.injEq] at h
      subst h
      simp only [Bool.and_eq_true] at hk
      have e : execOp (pxEv F gs ρ) o = execOp a.eval o := execOp_congr o (fun cs b hs => by rw [hs] at hk; cases hk.1) fun x hx => by
        obtain ⟨s, hs⟩ := pxKnown_spec hk.2 x (by simpa using hx)
        unfold pxEv
        rw [hs]
        exact (pxOpd_ok hF hg hs).symm
      have h9 : (execOp (pxEv F gs ρ) o).run E.P w = .ok (.value (sv'.den ρ)) w := hO sv' hc w hw
      rw [e] at h9
      exact h9
theorem oV_some {x : Option Value} {sv : SV} (h : oV x = some sv) : ∃ v, x = some v ∧ sv = .v v := by
  cases x with
  | none => cases h
  | some v => simp only [oV, Option.some.injEq] at h; exact ⟨v, rfl, h.symm⟩
def PxRun (P : Program) (C : World → Prop) (o : Oper) (a : Act) (w : World) (v : Value) : Prop :=
  (execOp a.eval o).run P w = .ok (.value v) w ∨ ∃ f args, (execOp a.eval o).run P w = .ok (.enter f args) w ∧ Calls P f args w (fun e w' => e = .returned v ∧ C w')
theorem PxRun.quiet {P : Program} {C : World → Prop} {o : Oper} {a : Act} {w : World} {v : Value} (h : PxRun P C o a w v) : o.quietAt P a C w v := by
  unfold Oper.quietAt
  rcases h with h | ⟨f, args, h, hc⟩
  · rw [h]; exact ⟨rfl, rfl⟩
  · rw [h]; exact ⟨rfl, hc⟩
theorem pxOp_run {E : PE} {C : World → Prop} {ρ : Nat → Nat × Nat} (hE : E.Ok C ρ) {F : PF} {a : Act} {gs : List (Nat × Bool)} (hF : F.Ok ρ a.tmps) (hg : GOk a.tmps gs) {o : Oper} {sv : SV} (h : pxOp E F gs o = some sv) (hO : ∀ x ∈ pxOwes E F gs o, x.paid E C ρ) (w : World) (hw : C w) : PxRun E.P C o a w (sv.den ρ) := by
  have opd : ∀ {x sv}, pxOpd F gs x = some sv → a.eval x = sv.den ρ := fun h => pxOpd_ok hF hg h
  have val : ∀ {v : Value}, (execOp a.eval o).run E.P w = .ok (.value v) w → sv.den ρ = v → PxRun E.P C o a w (sv.den ρ) := by
    intro v h1 h2
    exact .inl (by rw [h1, h2])
  unfold pxOp at h
  split at h
  · rename_i x ho
    refine val (v := a.eval x) ?_ (opd h).symm
    unfold execOp
    simp only [ho, Sem.run_pure]
  · rename_i x ho
    refine val (v := a.eval x) ?_ (opd h).symm
    unfold execOp
    simp only [ho, Sem.run_pure]
  · rename_i x ho
    cases hx : pxOpd F gs x with
    | none => rw [hx] at h; cases h
    | some s =>
      rw [hx] at h
      cases s with
      | v y => cases h
      | s _ _ _ _ => cases h
      | p i k =>
        simp only [Option.some.injEq] at h
        subst h
        refine val (v := .pointer (some ⟨(ρ i).1, (ρ i).2 + k, none⟩)) ?_ rfl
        have := opd hx
        unfold execOp
        simp only [ho, this, SV.den, Sem.run_pure]
  · rename_i T x f ho
    cases hx : pxOpd F gs x with
    | none => rw [hx] at h; cases h
    | some s =>
      rw [hx] at h
      cases s with
      | v y => cases h
      | s _ _ _ _ => cases h
      | p i k =>
        simp only at h
        cases hd : pxOff E.P T f with
        | none => rw [hd] at h; cases h
        | some d =>
          rw [hd] at h
          simp only [Option.some.injEq] at h
          subst h
          refine val (v := .pointer (some ⟨(ρ i).1, (ρ i).2 + (k + d), none⟩)) ?_ rfl
          have := opd hx
          unfold execOp
          simp only [ho, this, SV.den, Sem.run_bind, pxOff_run hd, Result.andThen_ok, Sem.run_pure, Nat.add_assoc]
  · rename_i T x ho
    cases hx : pxOpd F gs x with
    | none => rw [hx] at h; cases h
    | some s =>
      rw [hx] at h
      cases s with
      | v y => cases h
      | s _ _ _ _ => cases h
      | p i k =>
        simp only at h
        refine val (v := sv.den ρ) ?_ rfl
        have := opd hx
        unfold execOp
        simp only [ho, this, Sem.run_bind, pxLoad_run h w (hE.blocks w hw), Result.andThen_ok, Sem.run_pure, SV.den]
  · rename_i c x y ho
    cases c with
    | tmp s =>
      simp only at h
      cases hs : pxTmp F gs s with
      | none => rw [hs] at h; cases h
      | some sc =>
        rw [hs] at h
        have hsc := pxTmp_ok hF hg hs
        cases sc with
        | p i k => cases h
        | s _ _ _ _ => cases h
        | v vc =>
          cases vc with
          | bool b =>
            simp only at h
            cases hx : pxOpd F ((s, true) :: gs) x with
            | none => rw [hx] at h; cases h
            | some sx =>
              rw [hx] at h
              cases sx with
              | p i k => cases h
              | s _ _ _ _ => cases h
              | v vx =>
                cases hy : pxOpd F ((s, false) :: gs) y with
                | none => rw [hy] at h; cases h
                | some sy =>
                  rw [hy] at h
                  cases sy with
                  | p i k => cases h
                  | s _ _ _ _ => cases h
                  | v vy =>
                    simp only [Option.some.injEq] at h
                    subst h
                    have hsc' : a.eval (.tmp s) = .bool b := hsc
                    refine val (v := if b then a.eval x else a.eval y) ?_ ?_
                    · unfold execOp
                      simp only [ho, hsc', Sem.run_bind, asBool, Sem.run_pure, Result.andThen_ok]
                    · rw [SV.den, pickV_eq]
                      cases b with
                      | true =>
                        have : GOk a.tmps ((s, true) :: gs) := fun g hm => by
                          rcases List.mem_cons.1 hm with rfl | hm
                          · exact hsc
                          · exact hg g hm
                        simp [pxOpd_ok hF this hx, SV.den]
                      | false =>
                        have : GOk a.tmps ((s, false) :: gs) := fun g hm => by
                          rcases List.mem_cons.1 hm with rfl | hm
                          · exact hsc
                          · exact hg g hm
                        simp [pxOpd_ok hF this hy, SV.den]
          | _ => cases h
    | _ => cases h
  · rename_i op T x y yt ho
    cases hx : pxOpd F gs x with
    | none => rw [hx] at h; cases h
    | some sx =>
      rw [hx] at h
      cases sx with
      | p i k => cases h
      | s _ _ _ _ => cases h
      | v va =>
        cases hy : pxOpd F gs y with
        | none => rw [hy] at h; cases h
        | some sy =>
          rw [hy] at h
          cases sy with
          | p i k => cases h
          | s _ _ _ _ => cases h
          | v vb =>
            simp only at h
            have hb : ∃ v, sv = .v v ∧ (do eqGuard op T x y va vb; binOp op T va vb : Sem Value).run E.P w = .ok v w := by
              unfold pxBin at h
              split at h
              · rename_i xs ys
                cases hag : E.agg op T xs ys with
                | none => rw [hag] at h; cases h
                | some v =>
                  rw [hag] at h
                  simp only [Option.some.injEq] at h
                  exact ⟨v, h.symm, hE.agg _ _ _ _ _ hag x y w⟩
              · split at h
                · rename_i v hv
                  simp only [Option.some.injEq] at h
                  exact ⟨v, h.symm, peek_run _ _ _ _ hv⟩
                · cases h
            obtain ⟨v, rfl, hr⟩ := hb
            refine val (v := v) ?_ rfl
            have h1 := opd hx
            have h2 := opd hy
            unfold execOp
            simp only [ho, h1, h2, SV.den, Sem.run_bind] at hr ⊢
            rw [hr]
            rfl
  · rename_i op T x ho
    cases hx : pxOpd F gs x with
    | none => rw [hx] at h; cases h
    | some sx =>
      rw [hx] at h
      cases sx with
      | p i k => cases h
      | s _ _ _ _ => cases h
      | v va =>
        obtain ⟨v, hv, rfl⟩ := oV_some h
        refine val (v := v) ?_ rfl
        have h1 := opd hx
        unfold execOp
        simp only [ho, h1, SV.den, Sem.run_bind, peek_run _ w _ _ hv, Result.andThen_ok, Sem.run_pure]
  · rename_i s d x ho
    cases hx : pxOpd F gs x with
    | none => rw [hx] at h; cases h
    | some sx =>
      rw [hx] at h
      cases sx with
      | p i k => cases h
      | s _ _ _ _ => cases h
      | v va =>
        obtain ⟨v, hv, rfl⟩ := oV_some h
        refine val (v := v) ?_ rfl
        have h1 := opd hx
        unfold execOp
        simp only [ho, h1, SV.den, Sem.run_bind, peek_run _ w _ _ hv, Result.andThen_ok, Sem.run_pure]
  · rename_i T ps ho
    cases hp : ps.toList with
    | cons q r => rw [hp] at h; cases h
    | nil =>
      rw [hp] at h
      have hps : ps = #[] := by cases ps; simp_all
      subst hps
      obtain ⟨v, hv, rfl⟩ := oV_some h
      refine val (v := v) ?_ rfl
      unfold execOp
      simp only [ho, List.map_toArray, List.map_nil, Array.map_empty, Sem.run_bind, peek_run _ w _ _ hv, Result.andThen_ok, Sem.run_pure, SV.den]
  · rename_i c ho
    obtain ⟨cal, args, ats⟩ := c
    simp only at h
    split at h
    · rename_i f
      cases ha : pxArgs F gs args.toList with
      | none => rw [ha] at h; cases h
      | some svs =>
        rw [ha] at h
        simp only at h
        cases hc : E.call (o.dst.getD 0) with
        | none => rw [hc] at h; cases h
        | some sv' =>
          rw [hc] at h
          simp only at h
          cases hfn : E.P.funcs[f]? with
          | none => rw [hfn] at h; cases h
          | some fn =>
            rw [hfn] at h
            simp only at h
            split at h
            · rename_i hb
              simp only [Option.some.injEq] at h
              subst h
              simp only [Bool.and_eq_true, Bool.not_eq_true', Option.isSome_iff_exists] at hb
              have hargs : args.map a.eval = (svs.map (SV.den ρ)).toArray := by
                apply Array.toList_inj.1
                rw [Array.toList_map, pxArgs_ok hF hg ha]
              have hC := hO (.call f svs sv') (by unfold pxOwes; simp only [ho, ha, hc]; exact List.mem_singleton.2 rfl) w hw
              refine .inr ⟨f, _, ?_, hC⟩
              unfold execOp
              simp only [ho, resolve, hargs, Act.eval]
              obtain ⟨hname, body, hbody⟩ := hb
              have hne : fn.name ≠ "runtime.NumGoroutine" := by simpa using hname
              have hcf : (callFunc f (#[] ++ (svs.map (SV.den ρ)).toArray ++ #[])).run E.P w = .ok (.enter f (svs.map (SV.den ρ)).toArray) w := by
                unfold callFunc
                simp [go_sem, hfn, hne, hbody]
              have e : (do let d ← Deferred.ofValue (Value.func (Fn.func f) #[] #[]) (List.map (SV.den ρ) svs).toArray; invoke d.target d.args : Sem Next) = callFunc f (#[] ++ (svs.map (SV.den ρ)).toArray ++ #[]) := rfl
              rw [e, hcf]
            · cases h
    · rename_i s
      cases hfo : fnOf (pxTmp F gs s) with
      | none => rw [hfo] at h; cases h
      | some q =>
        obtain ⟨f, pre, cap⟩ := q
        rw [hfo] at h
        simp only at h
        have hfv := opd (x := .tmp s) (fnOf_spec hfo)
        simp only [Act.eval, SV.den] at hfv
        cases ha : pxArgs F gs args.toList with
        | none => rw [ha] at h; cases h
        | some svs =>
          rw [ha] at h
          simp only at h
          cases hc : E.call (o.dst.getD 0) with
          | none => rw [hc] at h; cases h
          | some sv' =>
            rw [hc] at h
            simp only at h
            cases hfn : E.P.funcs[f]? with
            | none => rw [hfn] at h; cases h
            | some fn =>
              rw [hfn] at h
              simp only at h
              split at h
              · rename_i hb
                simp only [Option.some.injEq] at h
                subst h
                simp only [Bool.and_eq_true, Bool.not_eq_true', Option.isSome_iff_exists] at hb
                have hargs : args.map a.eval = (svs.map (SV.den ρ)).toArray := by
                  apply Array.toList_inj.1
                  rw [Array.toList_map, pxArgs_ok hF hg ha]
                have hC := hO (.call f (pre.map .v ++ svs ++ cap.map .v) sv') (by unfold pxOwes; simp only [ho, hfo, ha, hc]; exact List.mem_singleton.2 rfl) w hw
                refine .inr ⟨f, _, ?_, hC⟩
                unfold execOp
                simp only [ho, resolve, hargs, Act.eval, hfv]
                obtain ⟨hname, body, hbody⟩ := hb
                have hne : fn.name ≠ "runtime.NumGoroutine" := by simpa using hname
                have hl : pre.toArray ++ (svs.map (SV.den ρ)).toArray ++ cap.toArray = ((pre.map SV.v ++ svs ++ cap.map SV.v).map (SV.den ρ)).toArray := by
                  apply Array.toList_inj.1
                  simp [List.map_map, Function.comp_def, SV.den]
                have hcf : (callFunc f (pre.toArray ++ (svs.map (SV.den ρ)).toArray ++ cap.toArray)).run E.P w = .ok (.enter f ((pre.map SV.v ++ svs ++ cap.map SV.v).map (SV.den ρ)).toArray) w := by
                  rw [hl]
                  generalize ((pre.map SV.v ++ svs ++ cap.map SV.v).map (SV.den ρ)).toArray = A
                  unfold callFunc
                  simp [go_sem, hfn, hne, hbody]
                have e : (do let d ← Deferred.ofValue (Value.func (Fn.func f) pre.toArray cap.toArray) (List.map (SV.den ρ) svs).toArray; invoke d.target d.args : Sem Next) = callFunc f (pre.toArray ++ (svs.map (SV.den ρ)).toArray ++ cap.toArray) := rfl
                rw [e, hcf]
              · cases h
    · cases ha : pxArgs F gs args.toList with
      | none => rw [ha] at h; cases h
      | some svs =>
        rw [ha] at h
        obtain ⟨v, hv, rfl⟩ := oV_some h
        refine val (v := v) ?_ rfl
        have hargs : args.map a.eval = (svs.map (SV.den ρ)).toArray := by
          apply Array.toList_inj.1
          rw [Array.toList_map, pxArgs_ok hF hg ha]
        unfold execOp
        simp only [ho, resolve, invoke, builtin, hargs, Sem.run_bind, Sem.run_pure, Result.andThen_ok, pxLen_run hv w]
    · rename_i hn1 hn2 hn3
      refine val (v := sv.den ρ) (pxElse_ok hF hg h (fun sv' hc => hO _ ?_) w hw) rfl
      unfold pxOwes
      simp only [ho]
      split <;> first | (rw [hc]; exact List.mem_singleton.2 rfl) | (exact (hn1 _ (by assumption)).elim) | (exact (hn2 _ (by assumption)).elim) | (exact (hn3 (by assumption)).elim) | simp_all
  · rename_i T x y ho
    have hel : pxElse E F gs o = some sv → PxRun E.P C o a w (sv.den ρ) := fun h => val (v := sv.den ρ) (pxElse_ok hF hg h (fun sv' hc => hO _ (by unfold pxOwes; simp only [ho, hc]; exact List.mem_singleton.2 rfl)) w hw) rfl
    split at h
    · exact hel h
    · cases hx : pxOpd F gs x with
      | none => rw [hx] at h; cases h
      | some sx =>
        rw [hx] at h
        cases hy : pxOpd F gs y with
        | none => rw [hy] at h; unfold pxIdx at h; split at h <;> cases h
        | some sy =>
          rw [hy] at h
          refine val (v := sv.den ρ) ?_ rfl
          have h1 := opd hx
          have h2 := opd hy
          unfold execOp
          simp only [ho, h1, h2, Sem.run_bind, pxIdx_run h w, Result.andThen_ok, Sem.run_pure]
  · rename_i hnc hni
    refine val (v := sv.den ρ) (pxElse_ok hF hg h (fun sv' hc => hO _ ?_) w hw) rfl
    unfold pxOwes
    split
    · rename_i c ho
      exact (hnc c ho).elim
    · rw [hc]; exact List.mem_singleton.2 rfl
theorem pxOp_ok {E : PE} {C : World → Prop} {ρ : Nat → Nat × Nat} (hE : E.Ok C ρ) {F : PF} {a : Act} {gs : List (Nat × Bool)} (hF : F.Ok ρ a.tmps) (hg : GOk a.tmps gs) {o : Oper} {sv : SV} (h : pxOp E F gs o = some sv) (hO : ∀ x ∈ pxOwes E F gs o, x.paid E C ρ) (w : World) (hw : C w) : o.quietAt E.P a C w (sv.den ρ) :=
  (pxOp_run hE hF hg h hO w hw).quiet
end Go.Proofs.Mem
end
section
namespace Go.Proofs.Mem
open Go.RowKit
set_option linter.unusedVariables false
set_option linter.unusedSimpArgs false
def pxGuard (F : PF) (ops : Array Oper) (o : Oper) : Option (Option (Nat × Bool) × List (Nat × Bool)) := match o.guard with
  | none => some (none, [])
  | some (j, want) => match ops[j]? with
    | none => none
    | some oj => match oj.dst with
      | none => none
      | some s => some (some (s, want), (s, want) :: gchain F 9 s)
def noG : PF → Nat → Bool
  | [], _ => true
  | (_, s) :: r, d => match s.g with
    | none => noG r d
    | some g => match Nat.beq g.1 d with
      | true => false
      | false => noG r d
theorem noG_spec : ∀ {F : PF} {d t : Nat} {s : PSt} {g : Nat × Bool}, noG F d = true → F.get t = some s → s.g = some g → g.1 ≠ d
  | [], d, t, s, g, _, h, _ => by cases h
  | (k, s') :: r, d, t, s, g, hn, h, hg => by
    have hr : noG r d = true := by
      unfold noG at hn
      cases hs : s'.g with
      | none => rw [hs] at hn; exact hn
      | some g' =>
        rw [hs] at hn
        cases hb : Nat.beq g'.1 d with
        | true => simp only [hb] at hn; cases hn
        | false => simp only [hb] at hn; exact hn
    unfold PF.get at h
    cases hk : Nat.beq k t with
    | false => rw [hk] at h; exact noG_spec hr h hg
    | true =>
      rw [hk] at h
      simp only [Option.some.injEq] at h
      subst h
      unfold noG at hn
      rw [hg] at hn
      intro e
      have : Nat.beq g.1 d = true := by rw [e]; exact Nat.beq_refl d
      simp only [this] at hn
      cases hn
def gFar (g : Option (Nat × Bool)) (d : Nat) : Bool := match g with
  | none => true
  | some g => match Nat.beq g.1 d with
    | true => false
    | false => true
def pxSkip (E : PE) (F : PF) : Option (Nat × Bool) → Bool
  | none => false
  | some (s, want) => match E.gl s with
    | false => false
    | true => match F.get s with
      | some ⟨.v (.bool b), _⟩ => match b with
        | true => !want
        | false => want
      | _ => false
theorem pxSkip_spec {E : PE} {F : PF} {ρ : Nat → Nat × Nat} {R : Array Value} (hF : F.Ok ρ R) {s : Nat} {want : Bool} (h : pxSkip E F (some (s, want)) = true) : R.getD s undef ≠ .bool want := by
  unfold pxSkip at h
  simp only at h
  cases hg : E.gl s with
  | false => rw [hg] at h; cases h
  | true =>
    rw [hg] at h
    simp only at h
    cases hs : F.get s with
    | none => rw [hs] at h; cases h
    | some st =>
      obtain ⟨sv, g⟩ := st
      have ho := hF s _ hs
      rw [hs] at h
      cases sv with
      | p i o => cases h
      | s _ _ _ _ => cases h
      | v x =>
        cases x with
        | bool b =>
          have hbw : b ≠ want := by cases b <;> cases want <;> simp at h ⊢
          unfold PSt.ok at ho
          cases g with
          | none =>
            simp only at ho
            rw [ho]
            simp only [SV.den]
            intro e
            injection e with e
            exact hbw e
          | some g =>
            simp only at ho
            rcases ho with ⟨_, h1⟩ | ⟨_, h1⟩
            · rw [h1]
              simp only [SV.den]
              intro e
              injection e with e
              exact hbw e
            · rw [h1]; simp [undef]
        | _ => cases h
def pxStep (E : PE) (ops : Array Oper) (F : PF) (o : Oper) : Option (PF × List Owed) := match pxGuard F ops o with
  | none => none
  | some (g, gs) => match o.dst with
    | none => none
    | some d => match Nat.blt d E.n && (noG F d && gFar g d) with
      | false => none
      | true => match pxSkip E F g with
        | true => some ((d, ⟨.v undef, none⟩) :: F, [])
        | false => match pxOp E F gs o with
          | none => none
          | some sv => some ((d, ⟨sv, g⟩) :: F, pxOwes E F gs o)
theorem getD_set (R : Array Value) (d t : Nat) (v u : Value) : (R.setIfInBounds d v).getD t u = if d = t ∧ d < R.size then v else R.getD t u := by
  rw [Array.getD_eq_getD_getElem?, Array.getD_eq_getD_getElem?, Array.getElem?_setIfInBounds]
  by_cases h : d = t
  · subst h
    by_cases h2 : d < R.size
    · simp [h2]
    · simp [h2]
  · simp [h]
theorem yielded_eq {ops : Array Oper} {R : Array Value} {j s : Nat} {oj : Oper} {b : Bool} (h1 : ops[j]? = some oj) (h2 : oj.dst = some s) : (yielded ops R j == some b) = true ↔ R.getD s undef = .bool b := by
  unfold yielded
  rw [h1, Option.bind_some, h2, Option.bind_some, Array.getD_eq_getD_getElem?]
  cases hr : R[s]? with
  | none => simp [undef]
  | some v => cases v <;> simp
theorem pxStep_ok {E : PE} {C : World → Prop} {ρ : Nat → Nat × Nat} (hE : E.Ok C ρ) {ops : Array Oper} {F F' : PF} {ow : List Owed} {o : Oper} {a : Act} {Q : Act → Prop} {rest : List Oper} (h : pxStep E ops F o = some (F', ow)) (hO : ∀ x ∈ ow, x.paid E C ρ) (hF : F.Ok ρ a.tmps) (hn : a.tmps.size = E.n)
    (hK : ∀ a' : Act, F'.Ok ρ a'.tmps → a'.tmps.size = E.n → a'.defers = a.defers → wpQuiet E.P ops C Q rest a') : wpQuiet E.P ops C Q (o :: rest) a := by
  unfold pxStep at h
  cases hgd : pxGuard F ops o with
  | none => rw [hgd] at h; cases h
  | some q =>
    obtain ⟨g, gs⟩ := q
    rw [hgd] at h
    simp only at h
    cases hd : o.dst with
    | none => rw [hd] at h; cases h
    | some d =>
      rw [hd] at h
      simp only at h
      cases hc : Nat.blt d E.n && (noG F d && gFar g d) with
      | false => rw [hc] at h; cases h
      | true =>
        rw [hc] at h
        simp only at h
        simp only [Bool.and_eq_true] at hc
        obtain ⟨hc1, hc2, hc3⟩ := hc
        have hdn : d < a.tmps.size := by rw [hn]; exact Nat.le_of_ble_eq_true hc1
        have far : ∀ t v, d ≠ t → (a.tmps.setIfInBounds d v).getD t undef = a.tmps.getD t undef := fun t v ht => by rw [getD_set, if_neg (fun e => ht e.1)]
        have at' : ∀ v, (a.tmps.setIfInBounds d v).getD d undef = v := fun v => by rw [getD_set, if_pos ⟨rfl, hdn⟩]
        have keep : ∀ v (s0 : PSt), s0.ok ρ (a.tmps.setIfInBounds d v) d → PF.Ok ρ ((d, s0) :: F) (a.tmps.setIfInBounds d v) := by
          intro v s0 h0 t s hs
          unfold PF.get at hs
          cases hk : Nat.beq d t with
          | true =>
            rw [hk] at hs
            simp only [Option.some.injEq] at hs
            subst hs
            have := Nat.eq_of_beq_eq_true hk
            subst this
            exact h0
          | false =>
            rw [hk] at hs
            have hdt : d ≠ t := fun e => by rw [e, Nat.beq_refl] at hk; cases hk
            have ho := hF t s hs
            unfold PSt.ok at ho ⊢
            cases hsg : s.g with
            | none => rw [hsg] at ho; simp only at ho ⊢; rw [far t v hdt]; exact ho
            | some g' =>
              rw [hsg] at ho
              simp only at ho ⊢
              have hg' := noG_spec hc2 hs hsg
              rw [far t v hdt, far g'.1 v (fun e => hg' e.symm)]
              exact ho
        have put : ∀ v, (a.put o.dst v).tmps = a.tmps.setIfInBounds d v := fun v => by rw [hd]; rfl
        unfold pxGuard at hgd
        cases hsk : pxSkip E F g with
        | true =>
          rw [hsk] at h
          simp only [Option.some.injEq, Prod.mk.injEq] at h
          obtain ⟨rfl, rfl⟩ := h
          cases hog : o.guard with
          | none =>
            rw [hog] at hgd
            simp only [Option.some.injEq, Prod.mk.injEq] at hgd
            obtain ⟨rfl, rfl⟩ := hgd
            cases hsk
          | some jw =>
            obtain ⟨j, want⟩ := jw
            rw [hog] at hgd
            simp only at hgd
            cases hj : ops[j]? with
            | none => rw [hj] at hgd; cases hgd
            | some oj =>
              rw [hj] at hgd
              simp only at hgd
              cases hs : oj.dst with
              | none => rw [hs] at hgd; cases hgd
              | some s =>
                rw [hs] at hgd
                simp only [Option.some.injEq, Prod.mk.injEq] at hgd
                obtain ⟨rfl, rfl⟩ := hgd
                have hwt := pxSkip_spec hF hsk
                have hy := yielded_eq (R := a.tmps) (b := want) hj hs
                have hw : ¬ Region.wanted o (yielded ops a.tmps) = true := by unfold Region.wanted; rw [hog]; exact fun e => hwt (hy.1 e)
                unfold wpQuiet
                rw [if_neg hw]
                exact hK _ (by rw [put]; exact keep undef ⟨.v undef, none⟩ (at' undef)) (by rw [put, Array.size_setIfInBounds]; exact hn) (by rw [hd]; rfl)
        | false =>
          rw [hsk] at h
          simp only at h
          cases hp : pxOp E F gs o with
          | none => rw [hp] at h; cases h
          | some sv =>
            rw [hp] at h
            simp only [Option.some.injEq, Prod.mk.injEq] at h
            obtain ⟨rfl, rfl⟩ := h
            have fin : ∀ v, (⟨sv, g⟩ : PSt).ok ρ (a.tmps.setIfInBounds d v) d → wpQuiet E.P ops C Q rest (a.put o.dst v) := fun v hv =>
              hK _ (by rw [put]; exact keep v _ hv) (by rw [put, Array.size_setIfInBounds]; exact hn) (by rw [hd]; rfl)
            cases hog : o.guard with
            | none =>
              rw [hog] at hgd
              simp only [Option.some.injEq, Prod.mk.injEq] at hgd
              obtain ⟨rfl, rfl⟩ := hgd
              have hw : Region.wanted o (yielded ops a.tmps) = true := wanted_none hog
              unfold wpQuiet
              rw [if_pos hw]
              refine ⟨sv.den ρ, fun w hw => pxOp_ok hE hF (fun g hg => by cases hg) hp hO w hw, fin _ ?_⟩
              exact at' _
            | some jw =>
              obtain ⟨j, want⟩ := jw
              rw [hog] at hgd
              simp only at hgd
              cases hj : ops[j]? with
              | none => rw [hj] at hgd; cases hgd
              | some oj =>
                rw [hj] at hgd
                simp only at hgd
                cases hs : oj.dst with
                | none => rw [hs] at hgd; cases hgd
                | some s =>
                  rw [hs] at hgd
                  simp only [Option.some.injEq, Prod.mk.injEq] at hgd
                  obtain ⟨rfl, rfl⟩ := hgd
                  have hsd : s ≠ d := by
                    intro e
                    subst e
                    unfold gFar at hc3
                    simp [Nat.beq_refl] at hc3
                  have hy := yielded_eq (R := a.tmps) (b := want) hj hs
                  unfold wpQuiet
                  by_cases hwt : a.tmps.getD s undef = .bool want
                  · have hw : Region.wanted o (yielded ops a.tmps) = true := by unfold Region.wanted; rw [hog]; exact hy.2 hwt
                    rw [if_pos hw]
                    have hgs : GOk a.tmps ((s, want) :: gchain F 9 s) := by
                      intro x hx
                      rcases List.mem_cons.1 hx with rfl | hx
                      · exact hwt
                      · exact gchain_ok hF 9 s want hwt x hx
                    refine ⟨sv.den ρ, fun w hw => pxOp_ok hE hF hgs hp hO w hw, fin _ ?_⟩
                    refine .inl ⟨?_, at' _⟩
                    show (a.tmps.setIfInBounds d _).getD s undef = _
                    rw [far s _ (fun e => hsd e.symm)]
                    exact hwt
                  · have hw : ¬ Region.wanted o (yielded ops a.tmps) = true := by unfold Region.wanted; rw [hog]; exact fun e => hwt (hy.1 e)
                    rw [if_neg hw]
                    refine fin _ (.inr ⟨?_, at' _⟩)
                    show (a.tmps.setIfInBounds d _).getD s undef ≠ _
                    rw [far s _ (fun e => hsd e.symm)]
                    exact hwt
def pxRun (E : PE) (ops : Array Oper) : List Oper → PF → Option (PF × List Owed)
  | [], F => some (F, [])
  | o :: r, F => match pxStep E ops F o with
    | none => none
    | some (F', ow) => match pxRun E ops r F' with
      | none => none
      | some (F'', ow') => some (F'', ow ++ ow')
theorem pxRun_ok {E : PE} {C : World → Prop} {ρ : Nat → Nat × Nat} (hE : E.Ok C ρ) {ops : Array Oper} {Q : Act → Prop} : ∀ {l : List Oper} {F F' : PF} {ow : List Owed} {a : Act}, pxRun E ops l F = some (F', ow) → (∀ x ∈ ow, x.paid E C ρ) → F.Ok ρ a.tmps → a.tmps.size = E.n →
    (∀ a' : Act, F'.Ok ρ a'.tmps → a'.tmps.size = E.n → a'.defers = a.defers → Q a') → wpQuiet E.P ops C Q l a
  | [], F, F', ow, a, h, hO, hF, hn, hK => by
    simp only [pxRun, Option.some.injEq, Prod.mk.injEq] at h
    obtain ⟨rfl, rfl⟩ := h
    exact wpQuiet_nil (hK a hF hn rfl)
  | o :: r, F, F', ow, a, h, hO, hF, hn, hK => by
    unfold pxRun at h
    cases hs : pxStep E ops F o with
    | none => rw [hs] at h; cases h
    | some q =>
      obtain ⟨F1, ow1⟩ := q
      rw [hs] at h
      simp only at h
      cases hr : pxRun E ops r F1 with
      | none => rw [hr] at h; cases h
      | some q2 =>
        obtain ⟨F2, ow2⟩ := q2
        rw [hr] at h
        simp only [Option.some.injEq, Prod.mk.injEq] at h
        obtain ⟨rfl, rfl⟩ := h
        exact pxStep_ok hE hs (fun x hx => hO x (List.mem_append_left _ hx)) hF hn fun a' h1 h2 h3 => pxRun_ok hE hr (fun x hx => hO x (List.mem_append_right _ hx)) h1 h2 fun a'' k1 k2 k3 => hK a'' k1 k2 (k3.trans h3)
def quietB (l : List Oper) : Bool := Region.noSelect l.toArray && (ordB5 0 l && freeB5 l.toArray 0 l.length l)
theorem wpAnyQ_lex5 {P : Program} {ops : Array Oper} {C : World → Prop} {Q : Act → Prop} (hsel : Region.noSelect ops = true)
    (hord : ∀ i o, ops[i]? = some o → ∀ e ∈ o.after, Region.binds .any e = true → e.on < i)
    (hfree : ∀ i j oi oj, i < j → ops[i]? = some oi → ops[j]? = some oj → (∀ e ∈ oj.after, Region.binds .any e = true → e.on ≠ i) → oi.apart ops oj = true) :
    ∀ (l : List Oper) (k : Nat) (a : Act), (∀ j, l[j]? = ops[k + j]?) → k + l.length = ops.size → wpQuiet P ops C Q l a → wpAnyQ P .any ops C Q l.length (preL ops.size k) a
  | [], k, a, hl, hk, h => by
    have hk' : k = ops.size := by simpa using hk
    subst hk'
    refine ⟨?_, h⟩
    apply List.eq_nil_iff_forall_not_mem.2
    intro j hj
    obtain ⟨h1, o, ho, _⟩ := mem_ready.1 hj
    have hjs := (Array.getElem?_eq_some_iff.1 ho).1
    rw [preL_get, if_pos hjs] at h1
    simp [hjs] at h1
  | o :: l, k, a, hl, hk, h => by
    have h0 : ops[k]? = some o := by simpa using (hl 0).symm
    have hks := (Array.getElem?_eq_some_iff.1 h0).1
    have hst : qOp P ops C k (wpQuiet P ops C Q l) a := by unfold qOp; simp only [h0]; exact h
    obtain ⟨v, hy, hK⟩ := yieldsIn_of_qOp h0 hst
    refine wpAnyQ_first h0 (Region.noSelect_spec hsel) l.length _ a (fun j oj hoj hji hun hno => ?_) ?_ hy ?_
    · have hjs := (Array.getElem?_eq_some_iff.1 hoj).1
      rw [preL_get, if_pos hjs] at hun
      have : ¬ j < k := by simpa using hun
      exact hfree k j o oj (by omega) h0 hoj hno
    · refine mem_ready.2 ⟨?_, o, h0, fun e he hb => ?_⟩
      · rw [preL_get, if_pos hks]; simp
      · have := hord k o h0 e he hb
        rw [preL_get, if_pos (by omega)]; simpa using this
    · rw [preL_set hks]
      exact wpAnyQ_lex5 hsel hord hfree l (k + 1) _ (fun j => by have := hl (j + 1); simpa [Nat.add_assoc, Nat.add_comm 1 j] using this) (by simp only [List.length_cons] at hk; omega) hK
theorem wp_region_quiet5 {P : Program} {id : Nat} {Q : Exit → Act → World → Prop} {C : World → Prop} {a : Act} {w : World} {ops : Array Oper} (hm : P.follows .mixedOrders = true) (hB : quietB ops.toList = true) (hC : C w.drew)
    (h : wpQuiet P ops C (fun a' => ∀ w', C w' → Q .normal a' w') ops.toList a) : (Code.region id ops true).wp P Q a w := by
  simp only [quietB, Bool.and_eq_true, Array.toArray_toList] at hB
  obtain ⟨hsel, hord, hfree⟩ := hB
  refine wp_region_any hm (wpAny_of_quiet (Q := fun a' => ∀ w', C w' → Q .normal a' w') (fun _ w' hw' h => h w' hw') _ _ _ _ hC ?_)
  have := wpAnyQ_lex5 (C := C) hsel (fun i o ho e he hb => by have := ordB5_spec ops.toList 0 i o hord (by rw [Array.getElem?_toList]; exact ho) e he hb; omega)
    (fun i j oi oj hij hoi hoj hno => freeB5_spec ops.toList ops.toList.length 0 i j oi oj hfree (by have := (Array.getElem?_eq_some_iff.1 hoi).1; simpa using this) hij (by rw [Array.getElem?_toList]; exact hoi) (by rw [Array.getElem?_toList]; exact hoj) (fun e he hb => by have := hno e he hb; omega))
    ops.toList 0 a (fun j => by simp) (by simp) h
  rw [← preL_zero] at this
  simpa using this
/-! ## Code -/
inductive Tr where
  | done (e : Exit) (F : PF)
  | br (b : Bool) (t f : Tr)
  | owes (ow : List Owed) (t : Tr)
  | fail
end Go.Proofs.Mem
end
section
namespace Go.Proofs.Mem
open Go.RowKit
set_option linter.unusedVariables false
set_option linter.unusedSimpArgs false
theorem PF.ok_nil {ρ : Nat → Nat × Nat} {R : Array Value} : PF.Ok ρ [] R := fun t s h => by cases h
theorem PF.ok_cons {ρ : Nat → Nat × Nat} {R : Array Value} {k : Nat} {s : PSt} {F : PF} (h : s.ok ρ R k) (hF : PF.Ok ρ F R) : PF.Ok ρ ((k, s) :: F) R := by
  intro t s' hs
  unfold PF.get at hs
  cases hk : Nat.beq k t with
  | true =>
    rw [hk] at hs
    simp only [Option.some.injEq] at hs
    subst hs
    have := Nat.eq_of_beq_eq_true hk
    subst this
    exact h
  | false => rw [hk] at hs; exact hF t s' hs
end Go.Proofs.Mem
namespace Go.Proofs.YtcbnmoghjhljbaaGreat
open Go.RowKit Go.Proofs.Mem
theorem eq_res (a b c d : Int) (w : World) : (binOp .eql 37 (.agg #[.int .i64 a, .int .i64 b]) (.agg #[.int .i64 c, .int .i64 d])).run Tryz.prog w = .ok (.bool ((a == c) && (b == d))) w := by
  have u := Tryz.underlying35
  have i := Tryz.isAgg35
  have z := Tryz.sizeOf35
  have hS : Tryz.prog.underlying 37 = some (.struct (Tryz.prog.fieldsOf 37)) := by kernel_rfl
  have hp : Tryz.prog.stoodInHeld 37 = false := by kernel_rfl
  rw [run_eql_struct, show (10000 : Nat) = 9999 + 1 from rfl, run_equalIn_agg w 9999 37 _ _ hS hp]
  simp only [Program.fieldsOf, Tryz.underlying37]
  go_simp
  cases h1 : a == c <;> cases h2 : b == d <;> simp_all
def aggR (op : BinOp) (T : TypeId) (xs ys : Array Value) : Option Value := match op with
  | .eql => match Nat.beq T 37 with
    | true => match xs.toList, ys.toList with
      | [.int .i64 a, .int .i64 b], [.int .i64 c, .int .i64 d] => some (.bool ((a == c) && (b == d)))
      | _, _ => none
    | false => none
  | _ => none
theorem aggR_ok (op : BinOp) (T : TypeId) (xs ys : Array Value) (v : Value) (h : aggR op T xs ys = some v) (x y : Operand) (w : World) : (do eqGuard op T x y (.agg xs) (.agg ys); binOp op T (.agg xs) (.agg ys) : Sem Value).run Tryz.prog w = .ok v w := by
  unfold aggR at h
  split at h
  · split at h
    · rename_i hT
      have hT := Nat.eq_of_beq_eq_true hT
      subst hT
      split at h
      · rename_i a b c d hx hy
        simp only [Option.some.injEq] at h
        subst h
        have ex : xs = #[.int .i64 a, .int .i64 b] := by rw [← Array.toArray_toList (xs := xs), hx]
        have ey : ys = #[.int .i64 c, .int .i64 d] := by rw [← Array.toArray_toList (xs := ys), hy]
        subst ex ey
        have hgd : Tryz.prog.eqGuardType Tryz.prog.depth 37 = false := by kernel_rfl
        have hg : (eqGuard .eql 37 x y (.agg #[.int .i64 a, .int .i64 b]) (.agg #[.int .i64 c, .int .i64 d])).run Tryz.prog w = .ok () w := by
          unfold eqGuard
          go_simp
        rw [Sem.run_bind, hg, Result.andThen_ok]
        exact eq_res a b c d w
      · cases h
    · cases h
  · cases h
end Go.Proofs.YtcbnmoghjhljbaaGreat
end
section
namespace Go.Proofs.Mem
open Go.RowKit
set_option linter.unusedVariables false
set_option linter.unusedSimpArgs false
structure Blk where
  own : Bool
  t : TypeId
  cells : List Value
structure St2 where
  F : PF
  B : List Blk
def upd (ρ : Nat → Nat × Nat) (i : Nat) (g : Nat × Nat) : Nat → Nat × Nat := fun j => if j = i then g else ρ j
theorem upd_at (ρ : Nat → Nat × Nat) (i : Nat) (g : Nat × Nat) : upd ρ i g i = g := by simp [upd]
theorem upd_far (ρ : Nat → Nat × Nat) {i j : Nat} (g : Nat × Nat) (h : j ≠ i) : upd ρ i g j = ρ j := by simp [upd, h]
def SV.lt (n : Nat) : SV → Bool
  | .v _ => true
  | .p i _ => Nat.blt i n
  | .s i _ _ _ => Nat.blt i n
theorem den_upd {ρ : Nat → Nat × Nat} {i n : Nat} {g : Nat × Nat} (hi : n ≤ i) {sv : SV} (h : sv.lt n = true) : sv.den (upd ρ i g) = sv.den ρ := by
  cases sv with
  | v x => rfl
  | p j o =>
    have : j < n := Nat.le_of_ble_eq_true h
    simp only [SV.den]
    rw [upd_far ρ g (by omega)]
  | s j o k c =>
    have : j < n := Nat.le_of_ble_eq_true h
    simp only [SV.den]
    rw [upd_far ρ g (by omega)]
def PF.lt (n : Nat) : PF → Bool
  | [] => true
  | (_, s) :: r => match s.sv.lt n with
    | true => PF.lt n r
    | false => false
theorem PF.lt_get {n : Nat} : ∀ {F : PF} {t : Nat} {s : PSt}, F.lt n = true → F.get t = some s → s.sv.lt n = true
  | [], t, s, _, h => by cases h
  | (k, s') :: r, t, s, hl, h => by
    unfold PF.lt at hl
    cases hs : s'.sv.lt n with
    | false => rw [hs] at hl; cases hl
    | true =>
      rw [hs] at hl
      unfold PF.get at h
      cases hk : Nat.beq k t with
      | true => rw [hk] at h; simp only [Option.some.injEq] at h; subst h; exact hs
      | false => rw [hk] at h; exact PF.lt_get hl h
theorem SV.lt_mono {n m : Nat} (h : n ≤ m) {sv : SV} (hs : sv.lt n = true) : sv.lt m = true := by
  cases sv with
  | v x => rfl
  | p i o =>
    have : i < n := Nat.le_of_ble_eq_true hs
    exact Nat.ble_eq_true_of_le (show i + 1 ≤ m by omega)
  | s i o k c =>
    have : i < n := Nat.le_of_ble_eq_true hs
    exact Nat.ble_eq_true_of_le (show i + 1 ≤ m by omega)
theorem PF.lt_mono {n m : Nat} (h : n ≤ m) : ∀ {F : PF}, F.lt n = true → F.lt m = true
  | [], _ => rfl
  | (k, s) :: r, hl => by
    unfold PF.lt at hl ⊢
    cases hs : s.sv.lt n with
    | false => rw [hs] at hl; cases hl
    | true =>
      rw [hs] at hl
      rw [SV.lt_mono h hs]
      exact PF.lt_mono h hl
theorem PSt.ok_den {ρ ρ' : Nat → Nat × Nat} {R : Array Value} {t : Nat} {s : PSt} (e : s.sv.den ρ' = s.sv.den ρ) (h : s.ok ρ R t) : s.ok ρ' R t := by
  unfold PSt.ok at h ⊢
  rw [e]
  exact h
theorem PF.ok_upd {ρ : Nat → Nat × Nat} {R : Array Value} {F : PF} {n i : Nat} {g : Nat × Nat} (hF : F.Ok ρ R) (hl : F.lt n = true) (hi : n ≤ i) : F.Ok (upd ρ i g) R :=
  fun t s hs => PSt.ok_den (den_upd hi (PF.lt_get hl hs)) (hF t s hs)
def St2.pe (S : St2) (E : PE) : PE := { E with B := S.B.map (·.cells) }
structure PR (E : PE) (W0 : World) (X : (Nat → Nat × Nat) → Prop) (n0 : Nat) (ds : List Deferred) (S : St2) (ρ : Nat → Nat × Nat) (a : Act) (w : World) : Prop where
  slots : S.F.Ok ρ a.tmps
  lt : S.F.lt S.B.length = true
  size : a.tmps.size = E.n
  defers : a.defers = ds
  below : Below W0.heap.size W0 w
  ext : X ρ
  nle : n0 ≤ S.B.length
  own : ∀ i b, S.B[i]? = some b → b.own = true → (ρ i).2 = 0 ∧ W0.heap.size ≤ (ρ i).1 ∧ Bk w (ρ i).1 b.t b.cells.toArray
  foreign : ∀ i b, S.B[i]? = some b → b.own = false → (ρ i).1 < w.heap.size ∧ w.rangeAt (ρ i).1 (ρ i).2 b.cells ∧ ∀ j c, S.B[j]? = some c → c.own = true → (ρ j).1 ≠ (ρ i).1
  apart : ∀ i j bi bj, S.B[i]? = some bi → S.B[j]? = some bj → bi.own = true → bj.own = true → (ρ i).1 = (ρ j).1 → i = j
section
variable {E : PE} {W0 : World} {X : (Nat → Nat × Nat) → Prop} {n0 : Nat} {ds : List Deferred} {S : St2} {ρ : Nat → Nat × Nat} {a : Act} {w : World}
theorem range_below {w w' : World} {b o : Nat} {cs : List Value} (h : w.rangeAt b o cs) (hb : b < w.heap.size) (hw : Below w.heap.size w w') : w'.rangeAt b o cs := by
  intro j v hj
  have h3 := h j v hj
  rw [← h3]
  exact hw.cell (p := ⟨b, o + j, none⟩) hb
theorem PR.ranges (h : PR E W0 X n0 ds S ρ a w) {w' : World} (hb : Below w.heap.size w w') : ∀ i cells, (S.B.map (·.cells))[i]? = some cells → w'.rangeAt (ρ i).1 (ρ i).2 cells := by
  intro i cells hc
  rw [List.getElem?_map] at hc
  cases hB : S.B[i]? with
  | none => rw [hB] at hc; cases hc
  | some b =>
    rw [hB] at hc
    simp only [Option.map_some, Option.some.injEq] at hc
    subst hc
    cases ho : b.own with
    | true =>
      obtain ⟨h1, h2, h3⟩ := h.own i b hB ho
      have := (h3.below' hb).range
      rw [h1]
      simpa using this
    | false =>
      obtain ⟨h1, h2, _⟩ := h.foreign i b hB ho
      exact range_below h2 h1 hb
def AggOk (E : PE) : Prop := ∀ op T xs ys v, E.agg op T xs ys = some v → ∀ x y w, (do eqGuard op T x y (.agg xs) (.agg ys); binOp op T (.agg xs) (.agg ys) : Sem Value).run E.P w = .ok v w
theorem PR.pe_ok (h : PR E W0 X n0 ds S ρ a w) (hA : AggOk E) : (S.pe E).Ok (fun w' => Below w.heap.size w w') ρ := ⟨fun w' hb => h.ranges hb, hA⟩
def Owed.paid2 (E : PE) (W0 : World) (X : (Nat → Nat × Nat) → Prop) : Owed → Prop
  | .call f args res => ∀ ρ, X ρ → ∀ w, Below W0.heap.size W0 w → Calls E.P f (args.map (SV.den ρ)).toArray w (fun e w' => e = .returned (res.den ρ) ∧ Below w.heap.size w w')
  | .op s res => ∀ ρ, X ρ → ∀ w, Below W0.heap.size W0 w → (s ρ).run E.P w = .ok (.value (res.den ρ)) w
theorem paid_of_paid2 (h : PR E W0 X n0 ds S ρ a w) {x : Owed} (hx : x.paid2 E W0 X) : x.paid (S.pe E) (fun w' => Below w.heap.size w w') ρ := by
  cases x with
  | call f args res => exact fun w' hw' => (hx ρ h.ext w' (h.below.trans (hw'.mono h.below.size))).mono fun e w'' ⟨h1, h2⟩ => ⟨h1, hw'.trans (h2.mono hw'.size)⟩
  | op s res => exact fun w' hw' => hx ρ h.ext w' (h.below.trans (hw'.mono h.below.size))
def allOne : List Value → Bool
  | [] => true
  | v :: r => match v.oneCell' with
    | true => allOne r
    | false => false
theorem allOne_spec : ∀ {l : List Value}, allOne l = true → ∀ v ∈ l, v.oneCell' = true
  | [], _, v, hv => by cases hv
  | x :: r, h, v, hv => by
    unfold allOne at h
    cases hx : x.oneCell' with
    | false => rw [hx] at h; cases h
    | true =>
      rw [hx] at h
      rcases List.mem_cons.1 hv with rfl | hv
      · exact hx
      · exact allOne_spec h v hv
def sizeIs (P : Program) (T : TypeId) (n : Nat) : Bool := match P.info? T with
  | some i => Nat.beq i.size n
  | none => false
def pxParts (F : PF) : List (Nat × Operand) → Option (List (Nat × Value))
  | [] => some []
  | (i, x) :: r => match pxOpd F [] x with
    | some (.v v) => match pxParts F r with
      | some l => some ((i, v) :: l)
      | none => none
    | _ => none
theorem pxParts_ok {ρ : Nat → Nat × Nat} {F : PF} {a : Act} (hF : F.Ok ρ a.tmps) : ∀ {l : List (Nat × Operand)} {vs : List (Nat × Value)}, pxParts F l = some vs → l.map (fun x => (x.1, a.eval x.2)) = vs
  | [], vs, h => by simp only [pxParts, Option.some.injEq] at h; subst h; rfl
  | (i, x) :: r, vs, h => by
    unfold pxParts at h
    cases hx : pxOpd F [] x with
    | none => rw [hx] at h; cases h
    | some sv =>
      rw [hx] at h
      cases sv with
      | p _ _ => cases h
      | s _ _ _ _ => cases h
      | v v =>
        simp only at h
        cases hr : pxParts F r with
        | none => rw [hr] at h; cases h
        | some l =>
          rw [hr] at h
          simp only [Option.some.injEq] at h
          subst h
          rw [List.map_cons, pxParts_ok hF hr, pxOpd_ok hF (fun g hg => by cases hg) hx]
          rfl
def newBlk (E : PE) (S : St2) (d : Nat) (T : TypeId) (cells : List Value) : Option (St2 × List Owed) := match Nat.blt d E.n && noG S.F d with
  | true => some (⟨(d, ⟨.p S.B.length 0, none⟩) :: S.F, S.B ++ [⟨true, T, cells⟩]⟩, [])
  | false => none
def px2Step (E : PE) (ops : Array Oper) (S : St2) (o : Oper) : Option (St2 × List Owed) := match o.op with
  | .alloc T => match o.guard, o.dst with
    | none, some d => match peek E.P (zeroValue T) with
      | some z => newBlk E S d T z.cells.toList
      | none => none
    | _, _ => none
  | .box T x => match o.guard, o.dst with
    | none, some d => match pxOpd S.F [] x with
      | some (.v v) => newBlk E S d T v.cells.toList
      | _ => none
    | _, _ => none
  | .buildSlice T len parts => match o.guard, o.dst with
    | none, some d => match E.P.underlying T with
      | some (.slice e) => match E.P.info? e with
        | some ie => match ie.zero with
          | some z => match pxParts S.F parts.toList with
            | some vs => match (Nat.ble (len * ie.size) 16777216 && Nat.blt 0 (len * ie.size)) && (Nat.blt d E.n && noG S.F d) with
              | true => match Instr.fill (fun i => some (i * ie.size, ie.size)) ((Array.range (len * ie.size)).map (z.cells[· % z.cells.size]!)) vs with
                | some cells => some (⟨(d, ⟨.s S.B.length 0 len len, none⟩) :: S.F, S.B ++ [⟨true, e, cells.toList⟩]⟩, [])
                | none => none
              | false => none
            | none => none
          | none => none
        | none => none
      | _ => none
    | _, _ => none
  | .store T x y => match o.guard, o.dst with
    | none, none => match pxOpd S.F [] x, pxOpd S.F [] y with
      | some (.p i k), some (.v v) => match S.B[i]? with
        | some b => match b.own && (sizeIs E.P T v.cells.size && (allOne v.cells.toList && Nat.ble (k + v.cells.size) b.cells.length)) with
          | true => some (⟨S.F, S.B.set i ⟨true, b.t, setL b.cells k v.cells.toList⟩⟩, [])
          | false => none
        | none => none
      | _, _ => none
    | _, _ => none
  | _ => match pxStep (S.pe E) ops S.F o with
    | some (F', ow) => match F'.lt S.B.length with
      | true => some (⟨F', S.B⟩, ow)
      | false => none
    | none => none
def StepWp (P : Program) (ops : Array Oper) (Q : Exit → Act → World → Prop) (o : Oper) (K : Act → World → Prop) (a : Act) (w : World) : Prop :=
  if Region.wanted o (yielded ops a.tmps) then o.wp P a w K Q ∨ (o.asks P a w ∧ LetsOut Q) else K (a.put o.dst undef) w
theorem step_run {P : Program} {ops : Array Oper} {Q : Exit → Act → World → Prop} {o : Oper} {K : Act → World → Prop} {a : Act} {w w' : World} {n : Next} (hg : o.guard = none) (hr : (execOp a.eval o).run P w = .ok n w')
    (h : match n with | .value v => K (a.put o.dst v) w' | .skip => K (a.put o.dst undef) w' | _ => False) : StepWp P ops Q o K a w := by
  unfold StepWp
  rw [if_pos (wanted_none hg)]
  refine .inl ?_
  unfold Oper.wp
  rw [hr]
  cases n <;> first | exact h | exact h.elim
theorem step_of_quiet {P : Program} {ops : Array Oper} {C : World → Prop} {Q : Exit → Act → World → Prop} {o : Oper} {K : Act → World → Prop} {a : Act} {w : World} (hw : C w) (h : wpQuiet P ops C (fun a' => ∀ w', C w' → K a' w') [o] a) : StepWp P ops Q o K a w := by
  unfold wpQuiet at h
  unfold StepWp
  split
  · rename_i hwt
    rw [if_pos hwt] at h
    exact .inl (Oper.wp_of_quiet hw (fun a' w' hw' h' => h' w' hw') h)
  · rename_i hwt
    rw [if_neg hwt] at h
    exact h w hw
def isStore (o : Oper) : Bool := match o.op with
  | .store .. => true
  | _ => false
theorem PR.quiet (h : PR E W0 X n0 ds S ρ a w) {F' : PF} (hl : F'.lt S.B.length = true) {a' : Act} {w' : World} (h1 : F'.Ok ρ a'.tmps) (h2 : a'.tmps.size = E.n) (h3 : a'.defers = a.defers) (hb : Below w.heap.size w w') : PR E W0 X n0 ds ⟨F', S.B⟩ ρ a' w' :=
  ⟨h1, hl, h2, h3.trans h.defers, h.below.trans (hb.mono h.below.size), h.ext, h.nle, fun i b hB ho => by obtain ⟨x, y, z⟩ := h.own i b hB ho; exact ⟨x, y, z.below' hb⟩, fun i b hB ho => by obtain ⟨x, y, z⟩ := h.foreign i b hB ho; exact ⟨Nat.lt_of_lt_of_le x hb.size, range_below y x hb, z⟩, h.apart⟩
theorem get_snoc {α : Type} {l : List α} {x y : α} {i : Nat} (h : (l ++ [x])[i]? = some y) : (i < l.length ∧ l[i]? = some y) ∨ (i = l.length ∧ x = y) := by
  rcases Nat.lt_or_ge i l.length with hi | hi
  · rw [List.getElem?_append_left hi] at h; exact .inl ⟨hi, h⟩
  · rw [List.getElem?_append_right hi] at h
    cases hk : i - l.length with
    | zero => rw [hk] at h; simp at h; exact .inr ⟨by omega, h⟩
    | succ m => rw [hk] at h; simp at h
theorem PR.new' (h : PR E W0 X n0 ds S ρ a w) (hX : ∀ ρ i g, n0 ≤ i → X ρ → X (upd ρ i g)) {d : Nat} {T : TypeId} {cells : List Value} {sv : SV} {v : Value} (hv : sv.den (upd ρ S.B.length (w.heap.size, 0)) = v) (hvl : sv.lt (S.B.length + 1) = true) (hd : d < E.n) (hn : noG S.F d = true) :
    PR E W0 X n0 ds ⟨(d, ⟨sv, none⟩) :: S.F, S.B ++ [⟨true, T, cells⟩]⟩ (upd ρ S.B.length (w.heap.size, 0)) (a.put (some d) v) (w.alloc (.cells cells.toArray T)) := by
  have hdn : d < a.tmps.size := by rw [h.size]; exact hd
  have hlen : (S.B ++ [(⟨true, T, cells⟩ : Blk)]).length = S.B.length + 1 := by simp
  refine ⟨?_, ?_, ?_, ?_, h.below.alloc h.below.size _, hX _ _ _ h.nle h.ext, by rw [hlen]; have := h.nle; omega, ?_, ?_, ?_⟩
  · intro t s hs
    show s.ok _ (a.tmps.setIfInBounds d _) t
    unfold PF.get at hs
    cases hk : Nat.beq d t with
    | true =>
      rw [hk] at hs
      simp only [Option.some.injEq] at hs
      subst hs
      have := Nat.eq_of_beq_eq_true hk
      subst this
      show (a.tmps.setIfInBounds d _).getD d undef = _
      rw [getD_set, if_pos ⟨rfl, hdn⟩]
      exact hv.symm
    | false =>
      rw [hk] at hs
      have hdt : d ≠ t := fun e => by rw [e, Nat.beq_refl] at hk; cases hk
      have ho := PF.ok_upd (g := (w.heap.size, 0)) h.slots h.lt (Nat.le_refl S.B.length) t s hs
      unfold PSt.ok at ho ⊢
      have far : ∀ u v, d ≠ u → (a.tmps.setIfInBounds d v).getD u undef = a.tmps.getD u undef := fun u v hu => by rw [getD_set, if_neg (fun e => hu e.1)]
      cases hsg : s.g with
      | none => rw [hsg] at ho; simp only at ho ⊢; rw [far t _ hdt]; exact ho
      | some g' =>
        rw [hsg] at ho
        simp only at ho ⊢
        have hg' := noG_spec hn hs hsg
        rw [far t _ hdt, far g'.1 _ (fun e => hg' e.symm)]
        exact ho
  · show PF.lt _ ((d, ⟨sv, none⟩) :: S.F) = true
    rw [hlen]
    unfold PF.lt
    rw [hvl]
    exact PF.lt_mono (Nat.le_succ _) h.lt
  · show (a.tmps.setIfInBounds d _).size = _
    rw [Array.size_setIfInBounds]; exact h.size
  · exact h.defers
  · intro i b hB ho
    rcases get_snoc hB with ⟨hi, hB⟩ | ⟨rfl, rfl⟩
    · rw [upd_far _ _ (by omega)]
      obtain ⟨x, y, z⟩ := h.own i b hB ho
      exact ⟨x, y, z.alloc _⟩
    · rw [upd_at]
      exact ⟨rfl, h.below.size, Bk.new _ _ _⟩
  · intro i b hB ho
    rcases get_snoc hB with ⟨hi, hB⟩ | ⟨rfl, rfl⟩
    · rw [upd_far _ _ (by omega)]
      obtain ⟨x, y, z⟩ := h.foreign i b hB ho
      refine ⟨Nat.lt_of_lt_of_le x (below_al w _).size, range_below y x (below_al w _), fun j c hj hjo => ?_⟩
      rcases get_snoc hj with ⟨hj1, hj⟩ | ⟨rfl, rfl⟩
      · rw [upd_far _ _ (by omega)]
        exact z j c hj hjo
      · rw [upd_at]
        exact fun e => by simp only at e; omega
    · cases ho
  · intro i j bi bj hi hj hoi hoj he
    rcases get_snoc hi with ⟨hi1, hi⟩ | ⟨rfl, rfl⟩
    · rcases get_snoc hj with ⟨hj1, hj⟩ | ⟨rfl, rfl⟩
      · rw [upd_far _ _ (by omega), upd_far _ _ (by omega)] at he
        exact h.apart i j bi bj hi hj hoi hoj he
      · rw [upd_far _ _ (by omega), upd_at] at he
        have := (h.own i bi hi hoi).2.2.lt
        omega
    · rcases get_snoc hj with ⟨hj1, hj⟩ | ⟨rfl, rfl⟩
      · rw [upd_at, upd_far _ _ (by omega)] at he
        have := (h.own j bj hj hoj).2.2.lt
        omega
      · rfl
theorem PR.new (h : PR E W0 X n0 ds S ρ a w) (hX : ∀ ρ i g, n0 ≤ i → X ρ → X (upd ρ i g)) {d : Nat} {T : TypeId} {cells : List Value} (hd : d < E.n) (hn : noG S.F d = true) :
    PR E W0 X n0 ds ⟨(d, ⟨.p S.B.length 0, none⟩) :: S.F, S.B ++ [⟨true, T, cells⟩]⟩ (upd ρ S.B.length (w.heap.size, 0)) (a.put (some d) (.pointer (some ⟨w.heap.size, 0, none⟩))) (w.alloc (.cells cells.toArray T)) :=
  h.new' hX (by simp only [SV.den, upd_at]) (Nat.ble_eq_true_of_le (Nat.le_refl _)) hd hn
theorem far_sets {t : TypeId} {g h : Nat} {cs : Array Value} (hgh : g ≠ h) : ∀ (vs : List Value) (o : Nat) {w : World}, Bk w g t cs → Bk (w.setCells h o vs) g t cs
  | [], _, _, hb => hb
  | v :: r, o, w, hb => far_sets hgh r (o + 1) (hb.far (p := ⟨h, o, none⟩) hgh v)
theorem PR.stored (h : PR E W0 X n0 ds S ρ a w) {i k : Nat} {b : Blk} {vs : List Value} (hB : S.B[i]? = some b) (ho : b.own = true) :
    PR E W0 X n0 ds ⟨S.F, S.B.set i ⟨true, b.t, setL b.cells k vs⟩⟩ ρ a (w.setCells (ρ i).1 k vs) := by
  obtain ⟨h1, h2, h3⟩ := h.own i b hB ho
  have hil : i < S.B.length := (List.getElem?_eq_some_iff.1 hB).1
  have get : ∀ j c, (S.B.set i ⟨true, b.t, setL b.cells k vs⟩)[j]? = some c → (j = i ∧ c = ⟨true, b.t, setL b.cells k vs⟩) ∨ (j ≠ i ∧ S.B[j]? = some c) := by
    intro j c hc
    rcases Nat.decEq j i with e | e
    · rw [List.getElem?_set_ne (fun x => e x.symm)] at hc; exact .inr ⟨e, hc⟩
    · subst e
      rw [List.getElem?_set_self hil] at hc
      simp only [Option.some.injEq] at hc
      exact .inl ⟨rfl, hc.symm⟩
  refine ⟨h.slots, by rw [List.length_set]; exact h.lt, h.size, h.defers, below_setCells vs k h.below h2, h.ext, by rw [List.length_set]; exact h.nle, ?_, ?_, ?_⟩
  · intro j c hc hco
    rcases get j c hc with ⟨rfl, rfl⟩ | ⟨hj, hc⟩
    · exact ⟨h1, h2, Bk.setL vs k h3 b.cells (by simp)⟩
    · obtain ⟨x, y, z⟩ := h.own j c hc hco
      exact ⟨x, y, far_sets (fun e => hj (h.apart j i c b hc hB hco ho e)) vs k z⟩
  · intro j c hc hco
    rcases get j c hc with ⟨rfl, rfl⟩ | ⟨hj, hc⟩
    · cases hco
    · obtain ⟨x, y, z⟩ := h.foreign j c hc hco
      refine ⟨by rw [size_setCells]; exact x, fun l v hl => ?_, fun l d hl hlo => ?_⟩
      · rw [World.cell?_setCells_out _ _ _ _ _ (fun e => absurd e.symm (z i b hB ho))]
        exact y l v hl
      · rcases get l d hl with ⟨rfl, rfl⟩ | ⟨hl1, hl2⟩
        · exact z _ b hB ho
        · exact z l d hl2 hlo
  · intro j l bj bl hj hl hoj hol he
    rcases get j bj hj with ⟨e1, e2⟩ | ⟨hj1, hj2⟩
    · rcases get l bl hl with ⟨e3, e4⟩ | ⟨hl1, hl2⟩
      · rw [e1, e3]
      · rw [e1] at he ⊢
        exact h.apart _ _ _ _ hB hl2 ho hol he
    · rcases get l bl hl with ⟨e3, e4⟩ | ⟨hl1, hl2⟩
      · rw [e3] at he ⊢
        exact h.apart _ _ _ _ hj2 hB hoj ho he
      · exact h.apart _ _ _ _ hj2 hl2 hoj hol he
theorem run_store_val {P : Program} (w : World) (b o : Nat) (ty : TypeId) (v : Value) (ht : w.there b o v.cells.size) (hi : sizeIs P ty v.cells.size = true) (h1 : allOne v.cells.toList = true) :
    (Instr.storeAt ty (.pointer (some ⟨b, o, none⟩)) v).run P w = .ok () (w.setCells b o v.cells.toList) := by
  have h := run_storeCells_cells (P := P) b o v.cells.toList 0 w (fun j hj => by simpa using (ht j (by simpa using hj)).1) (fun j hj => by simpa using (ht j (by simpa using hj)).2) (allOne_spec h1)
  unfold sizeIs at hi
  cases hq : P.info? ty with
  | none => rw [hq] at hi; cases hi
  | some i =>
    rw [hq] at hi
    have hs := Nat.eq_of_beq_eq_true hi
    simp only [Nat.add_zero] at h
    simp [Instr.storeAt, Instr.sureAddr, storeVar, sizeOf, typeInfo, hq, hs, h, Sem.run_bind, Sem.run_pure]
theorem px2Step_op {ops : Array Oper} {S' : St2} {ow : List Owed} {o : Oper} {Q : Exit → Act → World → Prop} {K : Act → World → Prop} (hA : AggOk E) (hX : ∀ ρ i g, n0 ≤ i → X ρ → X (upd ρ i g)) (h : px2Step E ops S o = some (S', ow)) (hO : ∀ x ∈ ow, x.paid2 E W0 X) (hR : PR E W0 X n0 ds S ρ a w)
    (hK : ∀ ρ' a' w', PR E W0 X n0 ds S' ρ' a' w' → (isStore o = false → Below w.heap.size w w') → K a' w') : StepWp E.P ops Q o K a w := by
  unfold px2Step at h
  split at h
  · rename_i T ho
    split at h
    · rename_i d hgd hdd
      split at h
      · rename_i z hz
        unfold newBlk at h
        split at h
        · rename_i hc
          simp only [Bool.and_eq_true] at hc
          simp only [Option.some.injEq, Prod.mk.injEq] at h
          obtain ⟨rfl, rfl⟩ := h
          have hr : (execOp a.eval o).run E.P w = .ok (.value (.pointer (some ⟨w.heap.size, 0, none⟩))) (w.alloc (.cells z.cells T)) := by
            unfold execOp
            simp only [ho, Instr.alloc, Sem.run_bind, peek_run _ w _ _ hz, Result.andThen_ok, newVar, newRow, run_newObj_alloc, Sem.run_pure]
          refine step_run hgd hr ?_
          have := hK _ _ _ (hR.new hX (T := T) (cells := z.cells.toList) (Nat.le_of_ble_eq_true hc.1) hc.2) (fun _ => below_al _ _)
          rw [hdd]
          simpa using this
        · cases h
      · cases h
    · cases h
  · rename_i T x ho
    split at h
    · rename_i d hgd hdd
      split at h
      · rename_i v hv
        unfold newBlk at h
        split at h
        · rename_i hc
          simp only [Bool.and_eq_true] at hc
          simp only [Option.some.injEq, Prod.mk.injEq] at h
          obtain ⟨rfl, rfl⟩ := h
          have hx := pxOpd_ok hR.slots (fun g hg => by cases hg) hv
          have hr : (execOp a.eval o).run E.P w = .ok (.value (.pointer (some ⟨w.heap.size, 0, none⟩))) (w.alloc (.cells v.cells T)) := by
            unfold execOp
            simp only [ho, hx, SV.den, Instr.box, Sem.run_bind, Result.andThen_ok, newVar, newRow, run_newObj_alloc, Sem.run_pure]
          refine step_run hgd hr ?_
          have := hK _ _ _ (hR.new hX (T := T) (cells := v.cells.toList) (Nat.le_of_ble_eq_true hc.1) hc.2) (fun _ => below_al _ _)
          rw [hdd]
          simpa using this
        · cases h
      · cases h
    · cases h
  · rename_i T len parts ho
    split at h
    · rename_i d hgd hdd
      split at h
      · rename_i e hu
        split at h
        · rename_i ie hie
          split at h
          · rename_i z hz
            split at h
            · rename_i vs hvs
              split at h
              · rename_i hc
                split at h
                · rename_i cells hf
                  simp only [Bool.and_eq_true] at hc
                  obtain ⟨⟨hc1, hc2⟩, hc3, hc4⟩ := hc
                  simp only [Option.some.injEq, Prod.mk.injEq] at h
                  obtain ⟨rfl, rfl⟩ := h
                  have hsmall : ¬ len * ie.size > 2 ^ 24 := by have := Nat.le_of_ble_eq_true hc1; omega
                  have hpos : ¬ len * ie.size = 0 := by have : 0 < len * ie.size := Nat.le_of_ble_eq_true hc2; omega
                  have hps : (parts.map fun (i, x) => (i, a.eval x)).toList = vs := by
                    rw [Array.toList_map]
                    exact pxParts_ok hR.slots hvs
                  have hr : (execOp a.eval o).run E.P w = .ok (.value (.slice (some ⟨w.heap.size, 0, none⟩) len len)) (w.alloc (.cells cells e)) := by
                    unfold execOp
                    simp only [ho, Sem.run_bind, run_buildSlice w T e len _ cells ie z hu hie hz hsmall hpos (by rw [hps]; exact hf), Result.andThen_ok, Sem.run_pure]
                  refine step_run hgd hr ?_
                  have := hK _ _ _ (hR.new' hX (T := e) (cells := cells.toList) (sv := .s S.B.length 0 len len) (v := .slice (some ⟨w.heap.size, 0, none⟩) len len) (by simp only [SV.den, upd_at, Nat.add_zero]) (Nat.ble_eq_true_of_le (Nat.le_refl _)) (Nat.le_of_ble_eq_true hc3) hc4) (fun _ => below_al _ _)
                  rw [hdd]
                  simpa using this
                · cases h
              · cases h
            · cases h
          · cases h
        · cases h
      · cases h
    · cases h
  · rename_i T x y ho
    split at h
    · rename_i hgd hdd
      split at h
      · rename_i i k v hx hy
        split at h
        · rename_i b hB
          split at h
          · rename_i hc
            simp only [Bool.and_eq_true] at hc
            obtain ⟨hown, hsz, hone, hle⟩ := hc
            simp only [Option.some.injEq, Prod.mk.injEq] at h
            obtain ⟨rfl, rfl⟩ := h
            have ex := pxOpd_ok hR.slots (fun g hg => by cases hg) hx
            have ey := pxOpd_ok hR.slots (fun g hg => by cases hg) hy
            obtain ⟨h1, h2, h3⟩ := hR.own i b hB hown
            have hle' : k + v.cells.size ≤ b.cells.length := Nat.le_of_ble_eq_true hle
            have hth : w.there (ρ i).1 k v.cells.size := by
              intro j hj
              rw [h3.cell, h3.frozen, Array.getElem?_eq_getElem (by simp; omega)]
              exact ⟨rfl, rfl⟩
            have hst := run_store_val (P := E.P) w (ρ i).1 k T v hth hsz hone
            have hr : (execOp a.eval o).run E.P w = .ok .skip (w.setCells (ρ i).1 k v.cells.toList) := by
              unfold execOp
              simp only [ho, ex, ey, SV.den, h1, Nat.zero_add, Sem.run_bind, hst, Result.andThen_ok, Sem.run_pure]
            refine step_run hgd hr ?_
            have := hK _ _ _ (hR.stored (k := k) (vs := v.cells.toList) hB hown) (fun hs => by unfold isStore at hs; rw [ho] at hs; cases hs)
            rw [hdd]
            exact this
          · cases h
        · cases h
      · cases h
    · cases h
  · split at h
    · rename_i F' ow' hs
      split at h
      · rename_i hl
        simp only [Option.some.injEq, Prod.mk.injEq] at h
        obtain ⟨rfl, rfl⟩ := h
        exact step_of_quiet (C := fun w' => Below w.heap.size w w') (Below.refl _ _) (pxStep_ok (E := S.pe E) (hR.pe_ok hA) hs (fun x hx => paid_of_paid2 hR (hO x hx)) hR.slots hR.size fun a' h1 h2 h3 => wpQuiet_nil fun w' hw' => hK ρ a' w' (hR.quiet hl h1 h2 h3 hw') (fun _ => hw'))
      · cases h
    · cases h
theorem px2Step_ok {ops : Array Oper} {S' : St2} {ow : List Owed} {o : Oper} {Q : Exit → Act → World → Prop} {rest : List Oper} (hA : AggOk E) (hX : ∀ ρ i g, n0 ≤ i → X ρ → X (upd ρ i g)) (h : px2Step E ops S o = some (S', ow)) (hO : ∀ x ∈ ow, x.paid2 E W0 X) (hR : PR E W0 X n0 ds S ρ a w)
    (hK : ∀ ρ' a' w', PR E W0 X n0 ds S' ρ' a' w' → wpList E.P ops Q rest a' w') : wpList E.P ops Q (o :: rest) a w := 
  px2Step_op (K := wpList E.P ops Q rest) hA hX h hO hR fun ρ' a' w' h _ => hK ρ' a' w' h
end
def px2Run (E : PE) (ops : Array Oper) : List Oper → St2 → Option (St2 × List Owed)
  | [], S => some (S, [])
  | o :: r, S => match px2Step E ops S o with
    | none => none
    | some (S', ow) => match px2Run E ops r S' with
      | none => none
      | some (S'', ow') => some (S'', ow ++ ow')
theorem px2Run_ok {E : PE} {W0 : World} {X : (Nat → Nat × Nat) → Prop} {n0 : Nat} {ds : List Deferred} {ops : Array Oper} {Q : Exit → Act → World → Prop} (hA : AggOk E) (hX : ∀ ρ i g, n0 ≤ i → X ρ → X (upd ρ i g)) : ∀ {l : List Oper} {S S' : St2} {ow : List Owed} {ρ : Nat → Nat × Nat} {a : Act} {w : World}, px2Run E ops l S = some (S', ow) → (∀ x ∈ ow, x.paid2 E W0 X) → PR E W0 X n0 ds S ρ a w →
    (∀ ρ' a' w', PR E W0 X n0 ds S' ρ' a' w' → Q .normal a' w') → wpList E.P ops Q l a w
  | [], S, S', ow, ρ, a, w, h, hO, hR, hK => by
    simp only [px2Run, Option.some.injEq, Prod.mk.injEq] at h
    obtain ⟨rfl, rfl⟩ := h
    exact hK ρ a w hR
  | o :: r, S, S', ow, ρ, a, w, h, hO, hR, hK => by
    unfold px2Run at h
    cases hs : px2Step E ops S o with
    | none => rw [hs] at h; cases h
    | some q =>
      obtain ⟨S1, ow1⟩ := q
      rw [hs] at h
      simp only at h
      cases hr : px2Run E ops r S1 with
      | none => rw [hr] at h; cases h
      | some q2 =>
        obtain ⟨S2, ow2⟩ := q2
        rw [hr] at h
        simp only [Option.some.injEq, Prod.mk.injEq] at h
        obtain ⟨rfl, rfl⟩ := h
        exact px2Step_ok hA hX hs (fun x hx => hO x (List.mem_append_left _ hx)) hR fun ρ' a' w' hR' => px2Run_ok hA hX hr (fun x hx => hO x (List.mem_append_right _ hx)) hR' hK
end Go.Proofs.Mem
end
section
namespace Go.Proofs.Mem
open Go.RowKit
set_option linter.unusedVariables false
set_option linter.unusedSimpArgs false
structure VP where
  i : Nat
  slot : Nat
  sv : SV
structure VV where
  al : Nat
  st : Nat
  slot : Nat
  t : TypeId
  zero : List Value
  cells : List Value
structure VA where
  al : Nat
  slot : Nat
  t : TypeId
  zero : List Value
def depB (o : Oper) (i : Nat) : Bool := o.after.toList.any fun e => Region.binds .any e && e.on == i
def depF (o : Oper) (F : PF) : List VP → PF
  | [] => F
  | p :: r => match depB o p.i with
    | true => (p.slot, ⟨p.sv, none⟩) :: depF o F r
    | false => depF o F r
def takeA (s : Nat) : List VA → Option (VA × List VA)
  | [] => none
  | x :: r => match Nat.beq x.slot s with
    | true => some (x, r)
    | false => match takeA s r with
      | some (y, q) => some (y, x :: q)
      | none => none
def pureB (o : Oper) : Bool := match o.op with
  | .move _ => true
  | .assign _ => true
  | .fieldAddr .. => true
  | .load .. => true
  | _ => false
def vscan (E : PE) (F : PF) : List Oper → Nat → List VP → List VA → List VV → Option (List VP × List VV)
  | [], _, ps, al, vs => match al with
    | [] => some (ps, vs)
    | _ :: _ => none
  | o :: r, i, ps, al, vs => match o.guard with
    | some _ => none
    | none => match o.op with
      | .alloc T => match o.dst with
        | some d => match peek E.P (zeroValue T) with
          | some z => vscan E F r (i + 1) ps (⟨i, d, T, z.cells.toList⟩ :: al) vs
          | none => none
        | none => none
      | .store T (.tmp s) y => match o.dst with
        | none => match takeA s al with
          | some (x, al') => match pxOpd (depF o F ps) [] y with
            | some (.v v) => match depB o x.al && (sizeIs E.P T v.cells.size && (allOne v.cells.toList && Nat.beq v.cells.size x.zero.length)) with
              | true => vscan E F r (i + 1) ps al' (⟨x.al, i, x.slot, x.t, x.zero, v.cells.toList⟩ :: vs)
              | false => none
            | _ => none
          | none => none
        | some _ => none
      | _ => match o.dst with
        | some d => match pxOp E (depF o F ps) [] o with
          | some sv => match pureB o && (E.call d).isNone with
            | true => vscan E F r (i + 1) (⟨i, d, sv⟩ :: ps) al vs
            | false => none
          | none => none
        | none => none
def memB (i : Nat) : List Nat → Bool
  | [] => false
  | j :: r => match Nat.beq j i with
    | true => true
    | false => memB i r
theorem memB_mem {i : Nat} : ∀ {l : List Nat}, memB i l = true → i ∈ l
  | [], h => by cases h
  | j :: r, h => by
    unfold memB at h
    cases hj : Nat.beq j i with
    | true => rw [Nat.eq_of_beq_eq_true hj]; exact List.mem_cons_self ..
    | false => rw [hj] at h; exact List.mem_cons_of_mem _ (memB_mem h)
theorem memB_not {i : Nat} : ∀ {l : List Nat}, memB i l = false → i ∉ l
  | [], _ => by simp
  | j :: r, h => by
    unfold memB at h
    cases hj : Nat.beq j i with
    | true => rw [hj] at h; cases h
    | false =>
      rw [hj] at h
      intro hm
      rcases List.mem_cons.1 hm with rfl | hm
      · rw [Nat.beq_refl] at hj; cases hj
      · exact memB_not h hm
def nodupB : List Nat → Bool
  | [] => true
  | i :: r => match memB i r with
    | true => false
    | false => nodupB r
theorem nodupB_ok : ∀ {l : List Nat}, nodupB l = true → l.Nodup
  | [], _ => List.nodup_nil
  | i :: r, h => by
    unfold nodupB at h
    cases hm : memB i r with
    | true => rw [hm] at h; cases h
    | false => rw [hm] at h; exact List.nodup_cons.2 ⟨memB_not hm, nodupB_ok h⟩
def allB (p : Nat → Bool) : Nat → Bool
  | 0 => true
  | n + 1 => match p n with
    | true => allB p n
    | false => false
theorem allB_ok {p : Nat → Bool} : ∀ {n : Nat}, allB p n = true → ∀ i, i < n → p i = true
  | n + 1, h, i, hi => by
    unfold allB at h
    cases hp : p n with
    | false => rw [hp] at h; cases h
    | true =>
      rw [hp] at h
      rcases Nat.lt_or_eq_of_le (Nat.le_of_lt_succ hi) with h1 | h1
      · exact allB_ok h i h1
      · rw [h1]; exact hp
def upB (ops : Array Oper) (i : Nat) : Bool := match ops[i]? with
  | some o => o.after.toList.all fun e => !Region.binds .any e || Nat.blt e.on i
  | none => true
def freeB (l : List Nat) : PF → Bool
  | [] => true
  | (k, s) :: r => match memB k l with
    | true => false
    | false => match (match s.g with | none => false | some g => memB g.1 l) with
      | true => false
      | false => freeB l r
def numsOf (ps : List VP) (vs : List VV) : List Nat := ps.map (·.i) ++ vs.map (·.al) ++ vs.map (·.st)
def slotsOf (ps : List VP) (vs : List VV) : List Nat := ps.map (·.slot) ++ vs.map (·.slot)
def svLt (n : Nat) : List VP → Bool
  | [] => true
  | p :: r => match p.sv.lt n with
    | true => svLt n r
    | false => false
def pxVars (E : PE) (ops : Array Oper) (F : PF) (n : Nat) : Option (List VP × List VV) := match vscan E F ops.toList 0 [] [] [] with
  | none => none
  | some (ps, vs) => match ((allB (fun i => memB i (numsOf ps vs)) ops.size && nodupB (numsOf ps vs)) && (nodupB (slotsOf ps vs) && allB (upB ops) ops.size)) && ((freeB (slotsOf ps vs) F && svLt n ps) && (slotsOf ps vs).all fun s => Nat.blt s E.n) with
    | true => some (ps, vs)
    | false => none
def vF : List VV → Nat → PF
  | [], _ => []
  | v :: r, n => (v.slot, ⟨.p n 0, none⟩) :: vF r (n + 1)
def pF : List VP → PF → PF
  | [], F => F
  | p :: r, F => (p.slot, ⟨p.sv, none⟩) :: pF r F
def varsSt (S : St2) (ps : List VP) (vs : List VV) : St2 := ⟨vF vs S.B.length ++ pF ps S.F, S.B ++ vs.map fun v => ⟨true, v.t, v.cells⟩⟩
/-! ## What the scan says -/
structure VS1 (E : PE) (F : PF) (ops : Array Oper) (ps : List VP) (al : List VA) (vs : List VV) : Prop where
  pures : ∀ p ∈ ps, ∃ o qs, ops[p.i]? = some o ∧ o.guard = none ∧ o.dst = some p.slot ∧ (∀ q ∈ qs, q ∈ ps) ∧ pxOp E (depF o F qs) [] o = some p.sv ∧ pureB o = true ∧ E.call p.slot = none
  allocs : ∀ x ∈ al, ∃ o z, ops[x.al]? = some o ∧ o.guard = none ∧ o.dst = some x.slot ∧ o.op = .alloc x.t ∧ peek E.P (zeroValue x.t) = some z ∧ x.zero = z.cells.toList
  vars : ∀ v ∈ vs, (∃ o z, ops[v.al]? = some o ∧ o.guard = none ∧ o.dst = some v.slot ∧ o.op = .alloc v.t ∧ peek E.P (zeroValue v.t) = some z ∧ v.zero = z.cells.toList) ∧
    ∃ o T y qs x, ops[v.st]? = some o ∧ o.guard = none ∧ o.dst = none ∧ o.op = .store T (.tmp v.slot) y ∧ depB o v.al = true ∧ (∀ q ∈ qs, q ∈ ps) ∧ pxOpd (depF o F qs) [] y = some (.v x) ∧ v.cells = x.cells.toList ∧ sizeIs E.P T x.cells.size = true ∧ allOne x.cells.toList = true ∧ x.cells.size = v.zero.length
theorem takeA_spec {s : Nat} : ∀ {al al' : List VA} {x : VA}, takeA s al = some (x, al') → x.slot = s ∧ x ∈ al ∧ ∀ y ∈ al', y ∈ al
  | [], al', x, h => by cases h
  | z :: r, al', x, h => by
    unfold takeA at h
    cases hz : Nat.beq z.slot s with
    | true =>
      rw [hz] at h
      simp only [Option.some.injEq, Prod.mk.injEq] at h
      obtain ⟨rfl, rfl⟩ := h
      exact ⟨Nat.eq_of_beq_eq_true hz, List.mem_cons_self .., fun y hy => List.mem_cons_of_mem _ hy⟩
    | false =>
      rw [hz] at h
      cases hr : takeA s r with
      | none => rw [hr] at h; cases h
      | some q =>
        obtain ⟨y, q⟩ := q
        rw [hr] at h
        simp only [Option.some.injEq, Prod.mk.injEq] at h
        obtain ⟨rfl, rfl⟩ := h
        obtain ⟨h1, h2, h3⟩ := takeA_spec hr
        refine ⟨h1, List.mem_cons_of_mem _ h2, fun w hw => ?_⟩
        rcases List.mem_cons.1 hw with rfl | hw
        · exact List.mem_cons_self ..
        · exact List.mem_cons_of_mem _ (h3 w hw)
theorem vscan_ok {E : PE} {F : PF} {ops : Array Oper} : ∀ {l : List Oper} {i : Nat} {ps ps' : List VP} {al : List VA} {vs vs' : List VV}, (∀ j o, l[j]? = some o → ops[i + j]? = some o) → VS1 E F ops ps al vs → vscan E F l i ps al vs = some (ps', vs') → VS1 E F ops ps' [] vs'
  | [], i, ps, ps', al, vs, vs', hl, hV, h => by
    unfold vscan at h
    cases al with
    | nil =>
      simp only [Option.some.injEq, Prod.mk.injEq] at h
      obtain ⟨rfl, rfl⟩ := h
      exact hV
    | cons x r => cases h
  | o :: r, i, ps, ps', al, vs, vs', hl, hV, h => by
    have ho : ops[i]? = some o := hl 0 o rfl
    have hl' : ∀ j o', r[j]? = some o' → ops[i + 1 + j]? = some o' := fun j o' hj => by rw [show i + 1 + j = i + (j + 1) by omega]; exact hl (j + 1) o' hj
    unfold vscan at h
    cases hg : o.guard with
    | some g => rw [hg] at h; cases h
    | none =>
      rw [hg] at h
      simp only at h
      split at h
      · rename_i T hop
        cases hd : o.dst with
        | none => rw [hd] at h; cases h
        | some d =>
          rw [hd] at h
          simp only at h
          cases hz : peek E.P (zeroValue T) with
          | none => rw [hz] at h; cases h
          | some z =>
            rw [hz] at h
            refine vscan_ok hl' ⟨hV.pures, fun x hx => ?_, hV.vars⟩ h
            rcases List.mem_cons.1 hx with rfl | hx
            · exact ⟨o, z, ho, hg, hd, hop, hz, rfl⟩
            · exact hV.allocs x hx
      · rename_i T s y hop
        cases hd : o.dst with
        | some d => rw [hd] at h; cases h
        | none =>
          rw [hd] at h
          simp only at h
          cases ht : takeA s al with
          | none => rw [ht] at h; cases h
          | some q =>
            obtain ⟨x, al'⟩ := q
            rw [ht] at h
            simp only at h
            obtain ⟨t1, t2, t3⟩ := takeA_spec ht
            cases hy : pxOpd (depF o F ps) [] y with
            | none => rw [hy] at h; cases h
            | some sv =>
              rw [hy] at h
              cases sv with
              | p _ _ => cases h
              | s _ _ _ _ => cases h
              | v v =>
                simp only at h
                split at h
                · rename_i hc
                  simp only [Bool.and_eq_true] at hc
                  obtain ⟨c1, c2, c3, c4⟩ := hc
                  refine vscan_ok hl' ⟨hV.pures, fun x hx => hV.allocs x (t3 x hx), fun u hu => ?_⟩ h
                  rcases List.mem_cons.1 hu with rfl | hu
                  · exact ⟨hV.allocs x t2, o, T, y, ps, v, ho, hg, hd, by rw [t1]; exact hop, c1, fun q hq => hq, hy, rfl, c2, c3, Nat.eq_of_beq_eq_true c4⟩
                  · exact hV.vars u hu
                · cases h
      · cases hd : o.dst with
        | none => rw [hd] at h; cases h
        | some d =>
          rw [hd] at h
          simp only at h
          cases hs : pxOp E (depF o F ps) [] o with
          | none => rw [hs] at h; cases h
          | some sv =>
            rw [hs] at h
            simp only at h
            cases hp : pureB o && (E.call d).isNone with
            | false => rw [hp] at h; cases h
            | true =>
              rw [hp] at h
              simp only [Bool.and_eq_true, Option.isNone_iff_eq_none] at hp
              refine vscan_ok hl' ⟨fun p hp' => ?_, hV.allocs, fun u hu => ?_⟩ h
              · rcases List.mem_cons.1 hp' with rfl | hp'
                · exact ⟨o, ps, ho, hg, hd, fun q hq => List.mem_cons_of_mem _ hq, hs, hp.1, hp.2⟩
                · obtain ⟨o', qs, a1, a2, a3, a4, a5⟩ := hV.pures p hp'
                  exact ⟨o', qs, a1, a2, a3, fun q hq => List.mem_cons_of_mem _ (a4 q hq), a5⟩
              · obtain ⟨b1, o', T, y, qs, x, a1, a2, a3, a4, a5, a6, a7⟩ := hV.vars u hu
                exact ⟨b1, o', T, y, qs, x, a1, a2, a3, a4, a5, fun q hq => List.mem_cons_of_mem _ (a6 q hq), a7⟩
theorem run_of_quietAt {P : Program} {C : World → Prop} {o : Oper} {a : Act} {w : World} {v : Value} (hp : pureB o = true) (h : o.quietAt P a C w v) : (execOp a.eval o).run P w = .ok (.value v) w := by
  unfold Oper.quietAt at h
  have key : ∀ {α : Type} {m : Sem α} {f : α → Value}, (execOp a.eval o).run P w = (do let x ← m; pure (Next.value (f x)) : Sem Next).run P w → (execOp a.eval o).run P w = .ok (.value v) w := by
    intro α m f e
    rw [e] at h ⊢
    rw [Sem.run_bind] at h ⊢
    cases hm : m.run P w with
    | ok x w' =>
      rw [hm] at h
      rw [Result.andThen_ok, Sem.run_pure] at h ⊢
      obtain ⟨h1, h2⟩ := h
      subst h1; subst h2
      rfl
    | _ => rw [hm] at h; exact h.elim
  unfold pureB at hp
  split at hp
  · rename_i x ho
    exact key (m := pure (a.eval x)) (f := id) (by unfold execOp; simp only [ho]; rfl)
  · rename_i x ho
    exact key (m := pure (a.eval x)) (f := id) (by unfold execOp; simp only [ho]; rfl)
  · rename_i T x f ho
    exact key (m := Instr.fieldAt T (a.eval x) f) (f := id) (by unfold execOp; simp only [ho]; rfl)
  · rename_i T x ho
    exact key (m := Instr.loadAt T (a.eval x)) (f := id) (by unfold execOp; simp only [ho]; rfl)
  · cases hp
theorem depF_ok {ρ : Nat → Nat × Nat} {R : Array Value} {o : Oper} {F : PF} (hF : F.Ok ρ R) : ∀ {qs : List VP}, (∀ q ∈ qs, depB o q.i = true → R.getD q.slot undef = q.sv.den ρ) → (depF o F qs).Ok ρ R
  | [], _ => hF
  | p :: r, h => by
    unfold depF
    have hr := depF_ok hF (qs := r) fun q hq => h q (List.mem_cons_of_mem _ hq)
    cases hd : depB o p.i with
    | true => exact PF.ok_cons (h p (List.mem_cons_self ..) hd) hr
    | false => exact hr
theorem free_get {l : List Nat} : ∀ {F : PF} {t : Nat} {s : PSt}, freeB l F = true → F.get t = some s → t ∉ l ∧ ∀ g, s.g = some g → g.1 ∉ l
  | [], t, s, _, h => by cases h
  | (k, s') :: r, t, s, hf, h => by
    unfold freeB at hf
    cases hk : memB k l with
    | true => rw [hk] at hf; cases hf
    | false =>
      rw [hk] at hf
      simp only at hf
      split at hf
      · cases hf
      · rename_i hg
        unfold PF.get at h
        cases ht : Nat.beq k t with
        | false => rw [ht] at h; exact free_get hf h
        | true =>
          rw [ht] at h
          simp only [Option.some.injEq] at h
          subst h
          have := Nat.eq_of_beq_eq_true ht
          subst this
          refine ⟨memB_not hk, fun g hsg => ?_⟩
          rw [hsg] at hg
          exact memB_not hg
theorem free_ok {ρ : Nat → Nat × Nat} {R R' : Array Value} {l : List Nat} {F : PF} (hF : F.Ok ρ R) (hf : freeB l F = true) (h : ∀ s, s ∉ l → R'.getD s undef = R.getD s undef) : F.Ok ρ R' := by
  intro t s hs
  obtain ⟨h1, h2⟩ := free_get hf hs
  have := hF t s hs
  unfold PSt.ok at this ⊢
  cases hg : s.g with
  | none => rw [hg] at this; simp only at this ⊢; rw [h t h1]; exact this
  | some g =>
    rw [hg] at this
    simp only at this ⊢
    rw [h t h1, h g.1 (h2 g hg)]
    exact this
def updL (g : Nat → Nat) : List VV → Nat → (Nat → Nat × Nat) → Nat → Nat × Nat
  | [], _, ρ => ρ
  | v :: r, n, ρ => updL g r (n + 1) (upd ρ n (g v.slot, 0))
theorem updL_low {g : Nat → Nat} : ∀ {vs : List VV} {n : Nat} {ρ : Nat → Nat × Nat} {j : Nat}, j < n → updL g vs n ρ j = ρ j
  | [], n, ρ, j, _ => rfl
  | v :: r, n, ρ, j, h => by
    unfold updL
    rw [updL_low (by omega), upd_far _ _ (by omega)]
theorem updL_at {g : Nat → Nat} : ∀ {vs : List VV} {n : Nat} {ρ : Nat → Nat × Nat} {j : Nat} {v : VV}, vs[j]? = some v → updL g vs n ρ (n + j) = (g v.slot, 0)
  | [], n, ρ, j, v, h => by simp at h
  | u :: r, n, ρ, 0, v, h => by
    simp only [List.getElem?_cons_zero, Option.some.injEq] at h
    subst h
    unfold updL
    rw [updL_low (by omega), Nat.add_zero, upd_at]
  | u :: r, n, ρ, j + 1, v, h => by
    unfold updL
    rw [show n + (j + 1) = n + 1 + j by omega]
    exact updL_at (by simpa using h)
theorem updL_X {X : (Nat → Nat × Nat) → Prop} {n0 : Nat} (hX : ∀ ρ i g, n0 ≤ i → X ρ → X (upd ρ i g)) {g : Nat → Nat} : ∀ {vs : List VV} {n : Nat} {ρ : Nat → Nat × Nat}, n0 ≤ n → X ρ → X (updL g vs n ρ)
  | [], n, ρ, _, h => h
  | v :: r, n, ρ, hn, h => by
    unfold updL
    exact updL_X hX (by omega) (hX _ _ _ hn h)
theorem den_updL {g : Nat → Nat} {vs : List VV} {n : Nat} {ρ : Nat → Nat × Nat} {sv : SV} (h : sv.lt n = true) : sv.den (updL g vs n ρ) = sv.den ρ := by
  cases sv with
  | v x => rfl
  | p j o =>
    have : j < n := Nat.le_of_ble_eq_true h
    simp only [SV.den]
    rw [updL_low this]
  | s j o k c =>
    have : j < n := Nat.le_of_ble_eq_true h
    simp only [SV.den]
    rw [updL_low this]
theorem svLt_mem {n : Nat} : ∀ {l : List VP}, svLt n l = true → ∀ p ∈ l, p.sv.lt n = true
  | [], _, p, hp => by cases hp
  | q :: r, h, p, hp => by
    unfold svLt at h
    cases hq : q.sv.lt n with
    | false => rw [hq] at h; cases h
    | true =>
      rw [hq] at h
      rcases List.mem_cons.1 hp with rfl | hp
      · exact hq
      · exact svLt_mem h p hp
theorem pF_ok {ρ : Nat → Nat × Nat} {R : Array Value} {F : PF} (hF : F.Ok ρ R) : ∀ {ps : List VP}, (∀ p ∈ ps, R.getD p.slot undef = p.sv.den ρ) → (pF ps F).Ok ρ R
  | [], _ => hF
  | p :: r, h => PF.ok_cons (h p (List.mem_cons_self ..)) (pF_ok hF fun q hq => h q (List.mem_cons_of_mem _ hq))
theorem vF_ok {ρ : Nat → Nat × Nat} {R : Array Value} {F : PF} (hF : F.Ok ρ R) : ∀ {vs : List VV} {n : Nat}, (∀ j v, vs[j]? = some v → R.getD v.slot undef = (SV.p (n + j) 0).den ρ) → (vF vs n ++ F).Ok ρ R
  | [], n, _ => hF
  | v :: r, n, h => PF.ok_cons (h 0 v rfl) (vF_ok hF (n := n + 1) fun j u hj => by rw [show n + 1 + j = n + (j + 1) by omega]; exact h (j + 1) u (by simpa using hj))
theorem pF_lt {n : Nat} {F : PF} (hF : F.lt n = true) : ∀ {ps : List VP}, (∀ p ∈ ps, p.sv.lt n = true) → (pF ps F).lt n = true
  | [], _ => hF
  | p :: r, h => by
    unfold pF PF.lt
    rw [h p (List.mem_cons_self ..)]
    exact pF_lt hF fun q hq => h q (List.mem_cons_of_mem _ hq)
theorem vF_lt {m : Nat} {F : PF} (hF : F.lt m = true) : ∀ {vs : List VV} {n : Nat}, n + vs.length ≤ m → (vF vs n ++ F).lt m = true
  | [], n, _ => hF
  | v :: r, n, h => by
    simp only [List.length_cons] at h
    unfold vF
    rw [List.cons_append]
    unfold PF.lt
    rw [show (SV.p n 0).lt m = true from Nat.ble_eq_true_of_le (by omega)]
    exact vF_lt hF (by omega)
theorem getD_of {R : Array Value} {t : Nat} {v : Value} (h : R[t]? = some v) : R.getD t undef = v := by
  rw [Array.getD_eq_getD_getElem?, h]
  rfl
def VP.ps (ρ : Nat → Nat × Nat) (p : VP) : PS := ⟨p.i, p.slot, p.sv.den ρ⟩
def VV.vs (v : VV) : VS := ⟨v.al, v.st, v.slot, v.t, v.zero.toArray, v.cells.toArray⟩
theorem px_vars_ok {E : PE} {W0 : World} {X : (Nat → Nat × Nat) → Prop} {n0 : Nat} {ds : List Deferred} {S : St2} {ρ : Nat → Nat × Nat} {a : Act} {w : World} {ops : Array Oper} {ps : List VP} {vs : List VV} {id : Nat} {Q : Exit → Act → World → Prop} (hA : AggOk E) (hX : ∀ ρ i g, n0 ≤ i → X ρ → X (upd ρ i g)) (hm : E.P.follows .mixedOrders = true)
    (h : pxVars (S.pe E) ops S.F S.B.length = some (ps, vs)) (hR : PR E W0 X n0 ds S ρ a w) (hK : ∀ ρ' a' w', PR E W0 X n0 ds (varsSt S ps vs) ρ' a' w' → Q .normal a' w') : (Code.region id ops true).wp E.P Q a w := by
  unfold pxVars at h
  cases hsc : vscan (S.pe E) S.F ops.toList 0 [] [] [] with
  | none => rw [hsc] at h; cases h
  | some q =>
    obtain ⟨ps1, vs1⟩ := q
    rw [hsc] at h
    simp only at h
    split at h
    · rename_i hc
      simp only [Option.some.injEq, Prod.mk.injEq] at h
      obtain ⟨rfl, rfl⟩ := h
      simp only [Bool.and_eq_true] at hc
      obtain ⟨⟨⟨c1, c2⟩, c3, c4⟩, ⟨c5, c6⟩, c7⟩ := hc
      have hV := vscan_ok (l := ops.toList) (i := 0) (ops := ops) (fun j o hj => by simpa using hj) ⟨(fun x hx => by cases hx), (fun x hx => by cases hx), (fun x hx => by cases hx)⟩ hsc
      have hps : ∀ (f : PS → Nat) (f' : VP → Nat), (∀ p, f (p.ps ρ) = f' p) → (ps1.map (VP.ps ρ)).map f = ps1.map f' := fun f f' e => by rw [List.map_map]; exact List.map_congr_left fun p _ => e p
      have hvs : ∀ (f : VS → Nat) (f' : VV → Nat), (∀ v, f v.vs = f' v) → (vs1.map VV.vs).map f = vs1.map f' := fun f f' e => by rw [List.map_map]; exact List.map_congr_left fun p _ => e p
      have hnum : (ps1.map (VP.ps ρ)).map (·.i) ++ (vs1.map VV.vs).map (·.al) ++ (vs1.map VV.vs).map (·.st) = numsOf ps1 vs1 := by
        rw [hps _ (·.i) (fun _ => rfl), hvs _ (·.al) (fun _ => rfl), hvs _ (·.st) (fun _ => rfl)]
        rfl
      have hslot : (ps1.map (VP.ps ρ)).map (·.slot) ++ (vs1.map VV.vs).map (·.slot) = slotsOf ps1 vs1 := by
        rw [hps _ (·.slot) (fun _ => rfl), hvs _ (·.slot) (fun _ => rfl)]
        rfl
      have hin : ∀ s ∈ slotsOf ps1 vs1, s < a.tmps.size := fun s hs => by
        rw [hR.size]
        exact Nat.le_of_ble_eq_true (List.all_eq_true.1 c7 s hs)
      have hdep : ∀ {o : Oper} {qs : List VP} {a' : Act}, (∀ q ∈ qs, q ∈ ps1) → Agree a (ps1.map (VP.ps ρ)) (vs1.map VV.vs) o a' → (depF o S.F qs).Ok ρ a'.tmps := by
        intro o qs a' hq hAg
        refine depF_ok (free_ok hR.slots c5 fun s hs => ?_) fun q hqm hd => ?_
        · rw [Array.getD_eq_getD_getElem?, Array.getD_eq_getD_getElem?, hAg.1 s]
          · intro p hp
            obtain ⟨p', hp', rfl⟩ := List.mem_map.1 hp
            exact fun e => hs (List.mem_append_left _ (List.mem_map.2 ⟨p', hp', e⟩))
          · intro v hv
            obtain ⟨v', hv', rfl⟩ := List.mem_map.1 hv
            exact fun e => hs (List.mem_append_right _ (List.mem_map.2 ⟨v', hv', e⟩))
        · exact getD_of (hAg.2 (q.ps ρ) (List.mem_map.2 ⟨q, hq q hqm, rfl⟩) (deps_of hd))
      refine wp_region_vars (ps := ps1.map (VP.ps ρ)) (vs := vs1.map VV.vs) (B := w.heap.size) (W := w) hm ?_ (Nat.le_refl _) (Below.refl _ _) ?_
      · refine ⟨?_, ?_, ?_, ?_, ?_, ?_, ?_, ?_, ?_⟩
        · intro p hp
          obtain ⟨p', hp', rfl⟩ := List.mem_map.1 hp
          obtain ⟨o, qs, a1, a2, a3, a4, a5, a6, a7⟩ := hV.pures p' hp'
          refine ⟨o, a1, a2, a3, fun a' w' hAg hb => ?_⟩
          refine run_of_quietAt (C := fun w' => Below w.heap.size w w') a6 (pxOp_ok (hR.pe_ok hA) (hdep a4 hAg) (fun g hg => by cases hg) a5 (fun x hx => ?_) w' hb)
          exfalso
          unfold pxOwes at hx
          unfold pureB at a6
          split at hx
          · rename_i ho
            rw [ho] at a6
            cases a6
          · rw [a3] at hx
            simp only [Option.getD_some, a7] at hx
            cases hx
        · intro v hv
          obtain ⟨v', hv', rfl⟩ := List.mem_map.1 hv
          obtain ⟨⟨o, z, a1, a2, a3, a4, a5, a6⟩, -⟩ := hV.vars v' hv'
          refine ⟨o, a1, a2, a3, fun a' w' => ?_⟩
          have hz : (zeroValue v'.t).run E.P w' = .ok z w' := peek_run _ w' _ _ a5
          unfold execOp
          have : (VV.vs v').zero = z.cells := by simp [VV.vs, a6]
          rw [this]
          simp only [a4, Instr.alloc, Sem.run_bind, hz, Result.andThen_ok, newVar, newRow, run_newObj_alloc, Sem.run_pure, VV.vs]
        · intro v hv
          obtain ⟨v', hv', rfl⟩ := List.mem_map.1 hv
          obtain ⟨-, o, T, y, qs, x, a1, a2, a3, a4, a5, a6, a7, a8, a9, a10, a11⟩ := hV.vars v' hv'
          refine ⟨o, a1, a2, a3, deps_of a5, fun a' w' g hAg hsl hk => ?_⟩
          have ey := pxOpd_ok (hdep a6 hAg) (fun g hg => by cases hg) a7
          have ex : a'.eval (.tmp v'.slot) = .pointer (some ⟨g, 0, none⟩) := getD_of hsl
          have hc : (VV.vs v').cells.toList = x.cells.toList := by simp [VV.vs, a8]
          have hth : w'.there g 0 x.cells.size := by
            intro j hj
            have hj' : j < (VV.vs v').zero.size := by simp [VV.vs]; omega
            rw [Nat.zero_add, hk.cell, hk.frozen, Array.getElem?_eq_getElem hj']
            exact ⟨rfl, rfl⟩
          have hst := run_store_val (P := E.P) w' g 0 T x hth a9 a10
          unfold execOp
          rw [hc]
          simp only [a4, ex, ey, SV.den, Sem.run_bind, hst, Result.andThen_ok, Sem.run_pure]
        · intro v hv
          obtain ⟨v', hv', rfl⟩ := List.mem_map.1 hv
          obtain ⟨-, o, T, y, qs, x, a1, a2, a3, a4, a5, a6, a7, a8, a9, a10, a11⟩ := hV.vars v' hv'
          simp [VV.vs, a8, a11]
        · intro i hi
          rw [hnum]
          exact memB_mem (allB_ok c1 i hi)
        · rw [hnum]
          exact nodupB_ok c2
        · rw [hslot]
          exact nodupB_ok c3
        · rw [hslot]
          exact hin
        · intro i o ho e he hb
          have := allB_ok c4 i (Array.getElem?_eq_some_iff.1 ho).1
          unfold upB at this
          rw [ho] at this
          have h2 := List.all_eq_true.1 this e (Array.mem_toList_iff.2 he)
          rw [hb] at h2
          simpa using h2
      · intro g w' hb hv hinj
        have hnd : ((setsOf (ps1.map (VP.ps ρ)) (vs1.map VV.vs) g).map (·.1)).Nodup := by
          have : (setsOf (ps1.map (VP.ps ρ)) (vs1.map VV.vs) g).map (·.1) = slotsOf ps1 vs1 := by
            unfold setsOf slotsOf
            simp [List.map_map, Function.comp_def, VP.ps, VV.vs]
          rw [this]
          exact nodupB_ok c3
        have hat : ∀ x ∈ setsOf (ps1.map (VP.ps ρ)) (vs1.map VV.vs) g, (putAll a.tmps (setsOf (ps1.map (VP.ps ρ)) (vs1.map VV.vs) g)).getD x.1 undef = x.2 := fun x hx => by
          refine getD_of (putAll_at _ _ hnd x hx (hin _ ?_))
          unfold setsOf at hx
          rcases List.mem_append.1 hx with hx | hx
          · obtain ⟨p, hp, rfl⟩ := List.mem_map.1 hx
            obtain ⟨p', hp', rfl⟩ := List.mem_map.1 hp
            exact List.mem_append_left _ (List.mem_map.2 ⟨p', hp', rfl⟩)
          · obtain ⟨p, hp, rfl⟩ := List.mem_map.1 hx
            obtain ⟨p', hp', rfl⟩ := List.mem_map.1 hp
            exact List.mem_append_right _ (List.mem_map.2 ⟨p', hp', rfl⟩)
        have hold : S.F.Ok ρ (putAll a.tmps (setsOf (ps1.map (VP.ps ρ)) (vs1.map VV.vs) g)) := by
          refine free_ok hR.slots c5 fun s hs => ?_
          rw [Array.getD_eq_getD_getElem?, Array.getD_eq_getD_getElem?, putAll_other]
          intro x hx e
          unfold setsOf at hx
          apply hs
          rw [← e]
          rcases List.mem_append.1 hx with hx | hx
          · obtain ⟨p, hp, rfl⟩ := List.mem_map.1 hx
            obtain ⟨p', hp', rfl⟩ := List.mem_map.1 hp
            exact List.mem_append_left _ (List.mem_map.2 ⟨p', hp', rfl⟩)
          · obtain ⟨p, hp, rfl⟩ := List.mem_map.1 hx
            obtain ⟨p', hp', rfl⟩ := List.mem_map.1 hp
            exact List.mem_append_right _ (List.mem_map.2 ⟨p', hp', rfl⟩)
        have hF' : (pF ps1 S.F).Ok ρ (putAll a.tmps (setsOf (ps1.map (VP.ps ρ)) (vs1.map VV.vs) g)) := pF_ok hold fun p hp => hat (p.slot, p.sv.den ρ) (List.mem_append_left _ (List.mem_map.2 ⟨p.ps ρ, List.mem_map.2 ⟨p, hp, rfl⟩, rfl⟩))
        have hl1 : (pF ps1 S.F).lt S.B.length = true := pF_lt hR.lt (svLt_mem c6)
        have hF2 : (pF ps1 S.F).Ok (updL g vs1 S.B.length ρ) (putAll a.tmps (setsOf (ps1.map (VP.ps ρ)) (vs1.map VV.vs) g)) := fun t s hs => PSt.ok_den (den_updL (PF.lt_get hl1 hs)) (hF' t s hs)
        have hin' : ∀ j v, vs1[j]? = some v → v ∈ vs1 := fun j v hj => List.mem_of_getElem? hj
        have hlen : (S.B ++ vs1.map fun v => (⟨true, v.t, v.cells⟩ : Blk)).length = S.B.length + vs1.length := by simp
        have get : ∀ i b, (S.B ++ vs1.map fun v => (⟨true, v.t, v.cells⟩ : Blk))[i]? = some b → (i < S.B.length ∧ S.B[i]? = some b) ∨ ∃ j v, i = S.B.length + j ∧ vs1[j]? = some v ∧ b = ⟨true, v.t, v.cells⟩ := by
          intro i b hb
          rcases Nat.lt_or_ge i S.B.length with hi | hi
          · rw [List.getElem?_append_left hi] at hb
            exact .inl ⟨hi, hb⟩
          · rw [List.getElem?_append_right hi, List.getElem?_map] at hb
            cases hv : vs1[i - S.B.length]? with
            | none => rw [hv] at hb; cases hb
            | some v =>
              rw [hv] at hb
              simp only [Option.map_some, Option.some.injEq] at hb
              exact .inr ⟨i - S.B.length, v, by omega, hv, hb.symm⟩
        refine hK (updL g vs1 S.B.length ρ) _ w' ⟨?_, ?_, ?_, hR.defers, hR.below.trans (hb.mono hR.below.size), updL_X hX hR.nle hR.ext, ?_, ?_, ?_, ?_⟩
        · refine vF_ok hF2 fun j v hj => ?_
          rw [show (SV.p (S.B.length + j) 0).den (updL g vs1 S.B.length ρ) = .pointer (some ⟨g v.slot, 0, none⟩) by simp only [SV.den, updL_at hj]]
          exact hat (v.slot, _) (List.mem_append_right _ (List.mem_map.2 ⟨v.vs, List.mem_map.2 ⟨v, hin' j v hj, rfl⟩, rfl⟩))
        · show PF.lt _ (vF vs1 S.B.length ++ pF ps1 S.F) = true
          rw [show (varsSt S ps1 vs1).B.length = S.B.length + vs1.length from hlen]
          exact vF_lt (PF.lt_mono (by omega) hl1) (by omega)
        · rw [putAll_size]
          exact hR.size
        · rw [show (varsSt S ps1 vs1).B.length = S.B.length + vs1.length from hlen]
          have := hR.nle
          omega
        · intro i b hB ho
          rcases get i b hB with ⟨hi, hB'⟩ | ⟨j, v, rfl, hj, rfl⟩
          · rw [updL_low hi]
            obtain ⟨x, y, z⟩ := hR.own i b hB' ho
            exact ⟨x, y, z.below' hb⟩
          · rw [updL_at hj]
            obtain ⟨h1, h2⟩ := hv v.vs (List.mem_map.2 ⟨v, hin' j v hj, rfl⟩)
            exact ⟨rfl, Nat.le_trans hR.below.size h1, h2⟩
        · intro i b hB ho
          rcases get i b hB with ⟨hi, hB'⟩ | ⟨j, v, rfl, hj, rfl⟩
          · rw [updL_low hi]
            obtain ⟨x, y, z⟩ := hR.foreign i b hB' ho
            refine ⟨Nat.lt_of_lt_of_le x hb.size, range_below y x hb, fun j' c hj' hjo => ?_⟩
            rcases get j' c hj' with ⟨hi', hB2⟩ | ⟨j, v, rfl, hj, rfl⟩
            · rw [updL_low hi']
              exact z j' c hB2 hjo
            · rw [updL_at hj]
              have := (hv v.vs (List.mem_map.2 ⟨v, hin' j v hj, rfl⟩)).1
              simp only [VV.vs] at this ⊢
              omega
          · cases ho
        · intro i i' b b' hB hB' ho ho' he
          rcases get i b hB with ⟨hi, h1⟩ | ⟨j, v, rfl, hj, rfl⟩
          · rcases get i' b' hB' with ⟨hi', h1'⟩ | ⟨j', v', rfl, hj', rfl⟩
            · rw [updL_low hi, updL_low hi'] at he
              exact hR.apart i i' b b' h1 h1' ho ho' he
            · rw [updL_low hi, updL_at hj'] at he
              have := (hR.own i b h1 ho).2.2.lt
              have := (hv v'.vs (List.mem_map.2 ⟨v', hin' j' v' hj', rfl⟩)).1
              simp only [VV.vs] at this he
              omega
          · rcases get i' b' hB' with ⟨hi', h1'⟩ | ⟨j', v', rfl, hj', rfl⟩
            · rw [updL_low hi', updL_at hj] at he
              have := (hR.own i' b' h1' ho').2.2.lt
              have := (hv v.vs (List.mem_map.2 ⟨v, hin' j v hj, rfl⟩)).1
              simp only [VV.vs] at this he
              omega
            · rw [updL_at hj, updL_at hj'] at he
              have e1 := hinj v.vs (List.mem_map.2 ⟨v, hin' j v hj, rfl⟩) v'.vs (List.mem_map.2 ⟨v', hin' j' v' hj', rfl⟩) he
              have e2 : v.slot = v'.slot := e1
              have hnd2 : (vs1.map (·.slot)).Nodup := by
                have := nodupB_ok c3
                exact (List.nodup_append.1 this).2.1
              have h3 : (vs1.map (·.slot))[j]? = (vs1.map (·.slot))[j']? := by rw [List.getElem?_map, List.getElem?_map, hj, hj']; simp [e2]
              have hjl : j < (vs1.map (·.slot)).length := by rw [List.length_map]; exact (List.getElem?_eq_some_iff.1 hj).1
              have := (List.getElem?_inj hjl hnd2).1 h3
              rw [this]
    · cases h
end Go.Proofs.Mem
end
section
namespace Go.Proofs.Mem
open Go.RowKit
set_option linter.unusedVariables false
set_option linter.unusedSimpArgs false
theorem pxStep_yc {E : PE} {C : World → Prop} {ρ : Nat → Nat × Nat} (hE : ∀ w, C w → E.Ok (fun w' => w' = w) ρ) {ops : Array Oper} {F F' : PF} {ow : List Owed} {o : Oper} {a : Act} (h : pxStep E ops F o = some (F', ow)) (hO : ow = []) (hF : F.Ok ρ a.tmps) (hn : a.tmps.size = E.n) :
    ∃ v, YC E.P ops C o v a ∧ (F'.Ok ρ (a.put o.dst v).tmps ∧ (a.put o.dst v).tmps.size = E.n ∧ (a.put o.dst v).defers = a.defers) := by
  unfold pxStep at h
  cases hgd : pxGuard F ops o with
  | none => rw [hgd] at h; cases h
  | some q =>
    obtain ⟨g, gs⟩ := q
    rw [hgd] at h
    simp only at h
    cases hd : o.dst with
    | none => rw [hd] at h; cases h
    | some d =>
      rw [hd] at h
      simp only at h
      cases hc : Nat.blt d E.n && (noG F d && gFar g d) with
      | false => rw [hc] at h; cases h
      | true =>
        rw [hc] at h
        simp only at h
        simp only [Bool.and_eq_true] at hc
        obtain ⟨hc1, hc2, hc3⟩ := hc
        have hdn : d < a.tmps.size := by rw [hn]; exact Nat.le_of_ble_eq_true hc1
        have far : ∀ t v, d ≠ t → (a.tmps.setIfInBounds d v).getD t undef = a.tmps.getD t undef := fun t v ht => by rw [getD_set, if_neg (fun e => ht e.1)]
        have at' : ∀ v, (a.tmps.setIfInBounds d v).getD d undef = v := fun v => by rw [getD_set, if_pos ⟨rfl, hdn⟩]
        have keep : ∀ v (s0 : PSt), s0.ok ρ (a.tmps.setIfInBounds d v) d → PF.Ok ρ ((d, s0) :: F) (a.tmps.setIfInBounds d v) := by
          intro v s0 h0 t s hs
          unfold PF.get at hs
          cases hk : Nat.beq d t with
          | true =>
            rw [hk] at hs
            simp only [Option.some.injEq] at hs
            subst hs
            have := Nat.eq_of_beq_eq_true hk
            subst this
            exact h0
          | false =>
            rw [hk] at hs
            have hdt : d ≠ t := fun e => by rw [e, Nat.beq_refl] at hk; cases hk
            have ho := hF t s hs
            unfold PSt.ok at ho ⊢
            cases hsg : s.g with
            | none => rw [hsg] at ho; simp only at ho ⊢; rw [far t v hdt]; exact ho
            | some g' =>
              rw [hsg] at ho
              simp only at ho ⊢
              have hg' := noG_spec hc2 hs hsg
              rw [far t v hdt, far g'.1 v (fun e => hg' e.symm)]
              exact ho
        have put : ∀ v, (a.put (some d) v).tmps = a.tmps.setIfInBounds d v := fun v => rfl
        unfold pxGuard at hgd
        cases hsk : pxSkip E F g with
        | true =>
          rw [hsk] at h
          simp only [Option.some.injEq, Prod.mk.injEq] at h
          obtain ⟨rfl, rfl⟩ := h
          cases hog : o.guard with
          | none =>
            rw [hog] at hgd
            simp only [Option.some.injEq, Prod.mk.injEq] at hgd
            obtain ⟨rfl, rfl⟩ := hgd
            cases hsk
          | some jw =>
            obtain ⟨j, want⟩ := jw
            rw [hog] at hgd
            simp only at hgd
            cases hj : ops[j]? with
            | none => rw [hj] at hgd; cases hgd
            | some oj =>
              rw [hj] at hgd
              simp only at hgd
              cases hs : oj.dst with
              | none => rw [hs] at hgd; cases hgd
              | some s =>
                rw [hs] at hgd
                simp only [Option.some.injEq, Prod.mk.injEq] at hgd
                obtain ⟨rfl, rfl⟩ := hgd
                have hwt := pxSkip_spec hF hsk
                have hy := yielded_eq (R := a.tmps) (b := want) hj hs
                have hw : ¬ Region.wanted o (yielded ops a.tmps) = true := by unfold Region.wanted; rw [hog]; exact fun e => hwt (hy.1 e)
                exact ⟨undef, .inr ⟨by simpa using hw, rfl⟩, by rw [put]; exact keep undef ⟨.v undef, none⟩ (at' undef), by rw [put, Array.size_setIfInBounds]; exact hn, rfl⟩
        | false =>
          rw [hsk] at h
          simp only at h
          cases hp : pxOp E F gs o with
          | none => rw [hp] at h; cases h
          | some sv =>
            rw [hp] at h
            simp only [Option.some.injEq, Prod.mk.injEq] at h
            obtain ⟨rfl, rfl⟩ := h
            have fin : ∀ v, (⟨sv, g⟩ : PSt).ok ρ (a.tmps.setIfInBounds d v) d → (PF.Ok ρ ((d, ⟨sv, g⟩) :: F) (a.put (some d) v).tmps ∧ (a.put (some d) v).tmps.size = E.n ∧ (a.put (some d) v).defers = a.defers) := fun v hv =>
              ⟨by rw [put]; exact keep v _ hv, by rw [put, Array.size_setIfInBounds]; exact hn, rfl⟩
            have run : ∀ {gs'}, gs' = gs → GOk a.tmps gs' → ∀ w, C w → QRun E.P (sv.den ρ) w ((execOp a.eval o).run E.P w) := fun {gs'} e hg w hw => by
              subst e
              rcases pxOp_run (hE w hw) hF hg hp (fun x hx => by rw [hO] at hx; cases hx) w rfl with h | ⟨f, args, h, hc⟩
              · rw [h]; exact ⟨rfl, rfl⟩
              · rw [h]; exact ⟨rfl, hc⟩
            cases hog : o.guard with
            | none =>
              rw [hog] at hgd
              simp only [Option.some.injEq, Prod.mk.injEq] at hgd
              obtain ⟨rfl, rfl⟩ := hgd
              have hw : Region.wanted o (yielded ops a.tmps) = true := wanted_none hog
              exact ⟨sv.den ρ, .inl ⟨hw, run rfl (fun g hg => by cases hg)⟩, fin _ (at' _)⟩
            | some jw =>
              obtain ⟨j, want⟩ := jw
              rw [hog] at hgd
              simp only at hgd
              cases hj : ops[j]? with
              | none => rw [hj] at hgd; cases hgd
              | some oj =>
                rw [hj] at hgd
                simp only at hgd
                cases hs : oj.dst with
                | none => rw [hs] at hgd; cases hgd
                | some s =>
                  rw [hs] at hgd
                  simp only [Option.some.injEq, Prod.mk.injEq] at hgd
                  obtain ⟨rfl, rfl⟩ := hgd
                  have hsd : s ≠ d := by
                    intro e
                    subst e
                    unfold gFar at hc3
                    simp [Nat.beq_refl] at hc3
                  have hy := yielded_eq (R := a.tmps) (b := want) hj hs
                  by_cases hwt : a.tmps.getD s undef = .bool want
                  · have hw : Region.wanted o (yielded ops a.tmps) = true := by unfold Region.wanted; rw [hog]; exact hy.2 hwt
                    have hgs : GOk a.tmps ((s, want) :: gchain F 9 s) := by
                      intro x hx
                      rcases List.mem_cons.1 hx with rfl | hx
                      · exact hwt
                      · exact gchain_ok hF 9 s want hwt x hx
                    refine ⟨sv.den ρ, .inl ⟨hw, run rfl hgs⟩, fin _ ?_⟩
                    refine .inl ⟨?_, at' _⟩
                    show (a.tmps.setIfInBounds d _).getD s undef = _
                    rw [far s _ (fun e => hsd e.symm)]
                    exact hwt
                  · have hw : ¬ Region.wanted o (yielded ops a.tmps) = true := by unfold Region.wanted; rw [hog]; exact fun e => hwt (hy.1 e)
                    refine ⟨undef, .inr ⟨by simpa using hw, rfl⟩, fin _ (.inr ⟨?_, at' _⟩)⟩
                    show (a.tmps.setIfInBounds d _).getD s undef ≠ _
                    rw [far s _ (fun e => hsd e.symm)]
                    exact hwt
theorem pxReads_ok {E : PE} {C : World → Prop} {ρ : Nat → Nat × Nat} (hE : ∀ w, C w → E.Ok (fun w' => w' = w) ρ) {ops : Array Oper} {Fin : Act → Prop} : ∀ {l : List Oper} {k : Nat} {F F' : PF} {a : Act}, pxRun E ops l F = some (F', []) → F.Ok ρ a.tmps → a.tmps.size = E.n →
    (∀ a' : Act, F'.Ok ρ a'.tmps → a'.tmps.size = E.n → a'.defers = a.defers → Fin a') → wpReads3 E.P ops C (fun _ => false) Fin k l a
  | [], k, F, F', a, h, hF, hn, hK => by
    simp only [pxRun, Option.some.injEq, Prod.mk.injEq] at h
    obtain ⟨rfl, _⟩ := h
    exact hK a hF hn rfl
  | o :: r, k, F, F', a, h, hF, hn, hK => by
    unfold pxRun at h
    cases hs : pxStep E ops F o with
    | none => rw [hs] at h; cases h
    | some q =>
      obtain ⟨F1, ow1⟩ := q
      rw [hs] at h
      simp only at h
      cases hr : pxRun E ops r F1 with
      | none => rw [hr] at h; cases h
      | some q =>
        obtain ⟨F2, ow2⟩ := q
        rw [hr] at h
        simp only [Option.some.injEq, Prod.mk.injEq, List.append_eq_nil_iff] at h
        obtain ⟨rfl, rfl, rfl⟩ := h
        obtain ⟨v, hy, h1, h2, h3⟩ := pxStep_yc hE hs rfl hF hn
        refine ⟨v, ?_, pxReads_ok hE hr h1 h2 fun a' e1 e2 e3 => hK a' e1 e2 (e3.trans h3)⟩
        rcases hy with ⟨hw, hy⟩ | hy
        · exact .inl ⟨hw, fun w hw' => hy w (hw'.resolve_left (by simp))⟩
        · exact .inr hy
def leadN : List Oper → Nat
  | [] => 0
  | o :: r => match o.op with
    | .alloc _ => 0
    | .box .. => 0
    | .buildSlice .. => 0
    | .store .. => 0
    | .call c => match c.callee with
      | .builtin _ => leadN r + 1
      | _ => 0
    | _ => leadN r + 1
def px2Tail (E : PE) (ops : Array Oper) : List Oper → St2 → Option (St2 × List Owed)
  | [], S => some (S, [])
  | o :: r, S => match isStore o with
    | true => none
    | false => match px2Step E ops S o with
      | none => none
      | some (S', ow) => match px2Tail E ops r S' with
        | none => none
        | some (S'', ow') => some (S'', ow ++ ow')
theorem px2Tail_ok {E : PE} {W0 : World} {X : (Nat → Nat × Nat) → Prop} {n0 : Nat} {ds : List Deferred} {ops : Array Oper} {Q : Exit → Act → World → Prop} {B : Nat} {W : World} (hB : B ≤ W.heap.size) (hA : AggOk E) (hX : ∀ ρ i g, n0 ≤ i → X ρ → X (upd ρ i g)) : ∀ {l : List Oper} {k : Nat} {S S' : St2} {ow : List Owed} {ρ : Nat → Nat × Nat} {a : Act} {w : World}, (∀ j, l[j]? = ops[k + j]?) → px2Tail E ops l S = some (S', ow) → (∀ x ∈ ow, x.paid2 E W0 X) → PR E W0 X n0 ds S ρ a w → Below B W w →
    (∀ ρ' a' w', PR E W0 X n0 ds S' ρ' a' w' → Q .normal a' w') → wpEarly E.P ops Q (fun w' => Below B W w') (fun a w => Q .normal a w) l.length k a w
  | [], k, S, S', ow, ρ, a, w, hl, h, hO, hR, hb, hK => by
    simp only [px2Tail, Option.some.injEq, Prod.mk.injEq] at h
    obtain ⟨rfl, rfl⟩ := h
    exact hK ρ a w hR
  | o :: r, k, S, S', ow, ρ, a, w, hl, h, hO, hR, hb, hK => by
    unfold px2Tail at h
    cases hst : isStore o with
    | true => rw [hst] at h; cases h
    | false =>
      rw [hst] at h
      simp only at h
      cases hs : px2Step E ops S o with
      | none => rw [hs] at h; cases h
      | some q =>
        obtain ⟨S1, ow1⟩ := q
        rw [hs] at h
        simp only at h
        cases hr : px2Tail E ops r S1 with
        | none => rw [hr] at h; cases h
        | some q =>
          obtain ⟨S2, ow2⟩ := q
          rw [hr] at h
          simp only [Option.some.injEq, Prod.mk.injEq] at h
          obtain ⟨rfl, rfl⟩ := h
          have h0 : ops[k]? = some o := by simpa using (hl 0).symm
          show wpOp E.P ops Q k _ a w
          unfold wpOp
          rw [h0]
          exact px2Step_op (K := fun a' w' => Below B W w' ∧ wpEarly E.P ops Q (fun w' => Below B W w') (fun a w => Q .normal a w) r.length (k + 1) a' w') hA hX hs (fun x hx => hO x (List.mem_append_left _ hx)) hR fun ρ' a' w' h' hbw => by
            have hb' : Below B W w' := hb.trans ((hbw hst).mono (Nat.le_trans hB hb.size))
            exact ⟨hb', px2Tail_ok hB hA hX (fun j => by have := hl (j + 1); simpa [Nat.add_assoc, Nat.add_comm 1 j] using this) hr (fun x hx => hO x (List.mem_append_right _ hx)) h' hb' hK⟩
theorem filter_range_none {p : Nat → Bool} : ∀ {m : Nat}, (∀ j, j < m → p j = false) → (List.range m).filter p = []
  | 0, _ => rfl
  | m + 1, h => by
    rw [List.range_succ, List.filter_append, filter_range_none fun j hj => h j (by omega)]
    simp [h m (by omega)]
theorem filter_range_one {p : Nat → Bool} {k : Nat} : ∀ {m : Nat}, k < m → p k = true → (∀ j, j < m → j ≠ k → p j = false) → (List.range m).filter p = [k]
  | m + 1, hk, hp, h => by
    rw [List.range_succ, List.filter_append]
    rcases Nat.lt_or_eq_of_le (Nat.le_of_lt_succ hk) with h1 | h1
    · rw [filter_range_one h1 hp fun j hj hjk => h j (by omega) hjk]
      simp [h m (by omega) (by omega)]
    · subst h1
      rw [filter_range_none fun j hj => h j (by omega) (by omega)]
      simp [hp]
def chainB : Nat → List Oper → Bool
  | _, [] => true
  | i, o :: r => match o.after.toList.any fun e => Region.binds .any e && Nat.beq (e.on + 1) i with
    | true => chainB (i + 1) r
    | false => false
theorem chainB_spec : ∀ {l : List Oper} {i a : Nat} {o : Oper}, chainB i l = true → l[a]? = some o → ∃ e ∈ o.after, Region.binds .any e = true ∧ e.on + 1 = i + a
  | [], _, _, _, _, h => by simp at h
  | o :: l, i, 0, o', hB, h => by
    obtain rfl : o = o' := by simpa using h
    unfold chainB at hB
    split at hB
    · rename_i hc
      obtain ⟨e, he, h2⟩ := List.any_eq_true.1 hc
      simp only [Bool.and_eq_true] at h2
      exact ⟨e, Array.mem_toList_iff.1 he, h2.1, by simpa using Nat.eq_of_beq_eq_true h2.2⟩
    · cases hB
  | o :: l, i, a + 1, o', hB, h => by
    unfold chainB at hB
    split at hB
    · obtain ⟨e, h1, h2, h3⟩ := chainB_spec (i := i + 1) (a := a) hB (by simpa using h)
      exact ⟨e, h1, h2, by omega⟩
    · cases hB
theorem seqB_chain {l : List Oper} {n : Nat} (hord : ordB5 0 l = true) (hch : chainB (n + 1) (l.drop (n + 1)) = true) : ∀ (g k : Nat), n ≤ k → k + g = l.length → Region.seqB .any l.toArray g k (preL l.length k) = true
  | 0, k, _, hk => by
    unfold Region.seqB Region.ready
    rw [filter_range_none]
    · rfl
    · intro j hj
      have hj' : j < l.length := by simpa using hj
      rw [preL_get, if_pos hj']
      have : j < k := by omega
      simp [this]
  | g + 1, k, hn, hk => by
    have hkl : k < l.length := by omega
    unfold Region.seqB
    rw [Bool.and_eq_true]
    constructor
    · refine decide_eq_true ?_
      unfold Region.ready
      refine filter_range_one (by simpa using hkl) ?_ fun j hj hjk => ?_
      · have ho : l[k]? = some l[k] := List.getElem?_eq_getElem hkl
        rw [preL_get, if_pos hkl]
        have h1 : (l.toArray)[k]? = some l[k] := by simp
        rw [h1]
        simp only [Option.map_some, Option.getD_some, Bool.and_eq_true, Bool.not_eq_true', decide_eq_false_iff_not, Nat.lt_irrefl, not_false_eq_true, true_and]
        refine Array.all_eq_true'.2 fun e he => ?_
        cases hb : Region.binds .any e with
        | false => rfl
        | true =>
          have := ordB5_spec l 0 k l[k] hord ho e he hb
          rw [preL_get, if_pos (by omega)]
          simpa using this
      · have hj' : j < l.length := by simpa using hj
        rw [preL_get, if_pos hj']
        by_cases hjk' : j < k
        · simp [hjk']
        · have hjk2 : k < j := by omega
          have ho : l[j]? = some l[j] := List.getElem?_eq_getElem hj'
          have h1 : (l.toArray)[j]? = some l[j] := by simp
          rw [h1]
          obtain ⟨e, he, hb, hon⟩ := chainB_spec (a := j - (n + 1)) (o := l[j]) hch (by rw [List.getElem?_drop, show n + 1 + (j - (n + 1)) = j by omega]; exact ho)
          have hon' : e.on + 1 = j := by omega
          simp only [Option.map_some, Option.getD_some, Bool.and_eq_false_iff]
          right
          rw [Bool.eq_false_iff]
          intro hall
          have := Array.all_eq_true'.1 hall e he
          rw [hb, preL_get, if_pos (by omega)] at this
          simp at this
          omega
    · rw [preL_set hkl]
      exact seqB_chain hord hch g (k + 1) (by omega) (by omega)
def reads6B (l : List Oper) (n : Nat) : Bool := (Region.noSelect l.toArray && (Nat.ble n l.length && ordB5 0 l)) && (freeB5 l.toArray 0 n l && chainB (n + 1) (l.drop (n + 1)))
theorem reads5_of6 {l : List Oper} {n : Nat} (h : reads6B l n = true) : Region.reads5B l n = true := by
  simp only [reads6B, Bool.and_eq_true] at h
  obtain ⟨⟨h1, h2, h3⟩, h4, h5⟩ := h
  have hn : n ≤ l.length := Nat.le_of_ble_eq_true h2
  simp only [Region.reads5B, Bool.and_eq_true, decide_eq_true_eq]
  exact ⟨⟨⟨⟨h1, hn⟩, h3⟩, h4⟩, seqB_chain h3 h5 (l.length - n) n (Nat.le_refl _) (by omega)⟩
def makesB : List Oper → Bool
  | [] => false
  | o :: r => match o.op with
    | .alloc _ => true
    | .box .. => true
    | .buildSlice .. => true
    | .store .. => true
    | _ => makesB r
def pxTail (E : PE) (ops : Array Oper) (S : St2) : Option (St2 × List Owed) := match reads6B ops.toList (leadN ops.toList) with
  | false => none
  | true => match pxRun (S.pe E) ops (ops.toList.take (leadN ops.toList)) S.F with
    | some (F1, []) => match F1.lt S.B.length with
      | true => px2Tail E ops (ops.toList.drop (leadN ops.toList)) ⟨F1, S.B⟩
      | false => none
    | _ => none
theorem px_tail_ok {E : PE} {W0 : World} {X : (Nat → Nat × Nat) → Prop} {n0 : Nat} {ds : List Deferred} {S S' : St2} {ow : List Owed} {ρ : Nat → Nat × Nat} {a : Act} {w : World} {ops : Array Oper} {id : Nat} {Q : Exit → Act → World → Prop} (hA : AggOk E) (hX : ∀ ρ i g, n0 ≤ i → X ρ → X (upd ρ i g)) (hm : E.P.follows .mixedOrders = true)
    (h : pxTail E ops S = some (S', ow)) (hO : ∀ x ∈ ow, x.paid2 E W0 X) (hR : PR E W0 X n0 ds S ρ a w) (hK : ∀ ρ' a' w', PR E W0 X n0 ds S' ρ' a' w' → Q .normal a' w') : (Code.region id ops true).wp E.P Q a w := by
  unfold pxTail at h
  cases hB6 : reads6B ops.toList (leadN ops.toList) with
  | false => rw [hB6] at h; cases h
  | true =>
    have hB := reads5_of6 hB6
    rw [hB6] at h
    simp only at h
    split at h
    · rename_i F1 hr
      cases hl : F1.lt S.B.length with
      | false => rw [hl] at h; cases h
      | true =>
        rw [hl] at h
        simp only at h
        have hops : ops.toList.toArray = ops := by simp
        have hE : ∀ w', Below w.heap.size w w' → (S.pe E).Ok (fun x => x = w') ρ := fun w' hb => ⟨fun x hx i cells hc => by subst hx; exact hR.ranges hb i cells hc, hA⟩
        have hnl : leadN ops.toList ≤ ops.toList.length := by
          simp only [Region.reads5B, Bool.and_eq_true, decide_eq_true_eq] at hB
          exact hB.1.1.1.2
        have main : (Code.region id ops.toList.toArray true).wp E.P (noPanic Q) a w := by
          refine wp_region_reads5 (leadN ops.toList) (fun w' => Below w.heap.size w w') (fun x => x = ops) (fun a' => F1.Ok ρ a'.tmps ∧ a'.tmps.size = E.n ∧ a'.defers = a.defers) hm hB (fun c a d v w hq => hq.elim) ((Below.refl _ _).drew) (by simp) ?_ ?_
          · rintro x rfl
            exact pxReads_ok hE hr hR.slots hR.size fun a' h1 h2 h3 => ⟨h1, h2, h3⟩
          · rintro a' ⟨h1, h2, h3⟩
            have hP := hR.quiet hl h1 h2 h3 ((Below.refl w.heap.size w).drew)
            have := px2Tail_ok (Q := noPanic Q) (ops := ops) (k := leadN ops.toList) (Nat.le_refl w.heap.size) hA hX (fun j => by rw [List.getElem?_drop]; simp) h hO hP ((Below.refl w.heap.size w).drew) hK
            rw [List.length_drop] at this
            simpa using this
        rw [hops] at main
        exact wp_mono main noPanic_le
    · cases h
end Go.Proofs.Mem
end
section
namespace Go.Proofs.Mem
open Go.RowKit
set_option linter.unusedVariables false
set_option linter.unusedSimpArgs false
inductive PT2 where
  | done (e : Exit) (S : St2)
  | br (b : Bool) (t f : PT2)
  | owes (ow : List Owed) (t : PT2)
  | sure (b want : Bool) (t : PT2)
  | loop (id : Nat) (c : Code) (S : St2) (k : PT2)
  | fail
def PT2.bind : PT2 → (St2 → PT2) → PT2
  | .done .normal S, k => k S
  | .done e S, _ => .done e S
  | .br b t f, k => .br b (t.bind k) (f.bind k)
  | .owes ow t, k => .owes ow (t.bind k)
  | .sure b x t, k => .sure b x (t.bind k)
  | .loop id c S t, k => .loop id c S (t.bind k)
  | .fail, _ => .fail
def PT2.inBlock (id : Nat) : PT2 → PT2
  | .done (.exit j) S => match Nat.beq j id with
    | true => .done .normal S
    | false => .done (.exit j) S
  | .done e S => .done e S
  | .br b t f => .br b (t.inBlock id) (f.inBlock id)
  | .owes ow t => .owes ow (t.inBlock id)
  | .sure b x t => .sure b x (t.inBlock id)
  | .loop i c S t => .loop i c S (t.inBlock id)
  | .fail => .fail
def PT2.leaves (Q : Exit → St2 → Prop) : PT2 → Prop
  | .done e S => Q e S
  | .br b t f => (b = true → t.leaves Q) ∧ (b = false → f.leaves Q)
  | _ => False
structure Hyp where
  E : PE
  W0 : World
  X : (Nat → Nat × Nat) → Prop
  n0 : Nat
  ds : List Deferred
  loops : Nat → Option (St2 → PT2)
  lit : Nat → Bool
  dec : Nat → Option Bool
def Hyp.loopOk (H : Hyp) (id : Nat) (c : Code) (S : St2) (out : PT2) : Prop := ∀ (ρ : Nat → Nat × Nat) (a : Act) (w : World) (Q : Exit → Act → World → Prop), PR H.E H.W0 H.X H.n0 H.ds S ρ a w →
  out.leaves (fun e S' => ∀ ρ' a' w', PR H.E H.W0 H.X H.n0 H.ds S' ρ' a' w' → Q e a' w') → (Code.block id c).wp H.E.P Q a w
def PT2.sat (H : Hyp) (Q : Exit → St2 → Prop) : PT2 → Prop
  | .done e S => Q e S
  | .br b t f => (b = true → t.sat H Q) ∧ (b = false → f.sat H Q)
  | .owes ow t => (∀ x ∈ ow, x.paid2 H.E H.W0 H.X) ∧ t.sat H Q
  | .sure b x t => b = x ∧ t.sat H Q
  | .loop id c S k => (∃ out, H.loops id = some out ∧ H.loopOk id c S (out S)) ∧ k.sat H Q
  | .fail => False
def noLoop : PT2 → Bool
  | .done _ _ => true
  | .br _ t f => noLoop t && noLoop f
  | _ => false
def px2Code (H : Hyp) : Code → St2 → PT2
  | .skip, S => .done .normal S
  | .region _ ops d, S => match d with
    | false => match px2Run H.E ops ops.toList S with
      | some (S', ow) => match ow with
        | [] => .done .normal S'
        | x :: r => .owes (x :: r) (.done .normal S')
      | none => .fail
    | true => match !(makesB ops.toList) && quietB ops.toList with
      | true => match pxRun (S.pe H.E) ops ops.toList S.F with
        | some (F', ow) => match F'.lt S.B.length with
          | true => match ow with
            | [] => .done .normal ⟨F', S.B⟩
            | x :: r => .owes (x :: r) (.done .normal ⟨F', S.B⟩)
          | false => .fail
        | none => .fail
      | false => match pxVars (S.pe H.E) ops S.F S.B.length with
        | some (ps, vs) => .done .normal (varsSt S ps vs)
        | none => match pxTail H.E ops S with
          | some (S', ow) => match ow with
            | [] => .done .normal S'
            | x :: r => .owes (x :: r) (.done .normal S')
          | none => .fail
  | .seq a b, S => (px2Code H a S).bind (px2Code H b)
  | .cond c x y, S => match pxOpd S.F [] c with
    | some (.v (.bool b)) => match (match c with | .tmp s => H.lit s | _ => true) with
      | true => match b with
        | true => px2Code H x S
        | false => px2Code H y S
      | false => match (match c with | .tmp s => H.dec s | _ => none) with
        | none => .br b (px2Code H x S) (px2Code H y S)
        | some true => .sure b true (px2Code H x S)
        | some false => .sure b false (px2Code H y S)
    | _ => .fail
  | .block id c, S => match H.loops id with
    | some out => match noLoop (out S) with
      | true => .loop id c S (out S)
      | false => .fail
    | none => (px2Code H c S).inBlock id
  | .exit id, S => .done (.exit id) S
  | .ret, S => .done .ret S
  | _, _ => .fail
def PQ2 (H : Hyp) (Q : Exit → Act → World → Prop) (e : Exit) (S : St2) : Prop := ∀ ρ a w, PR H.E H.W0 H.X H.n0 H.ds S ρ a w → Q e a w
theorem t2_bind {H : Hyp} {Q : Exit → St2 → Prop} {k : St2 → PT2} : ∀ {t : PT2}, (t.bind k).sat H Q → t.sat H (fun e S => match e with | .normal => (k S).sat H Q | e => Q e S)
  | .done e S, h => by cases e <;> exact h
  | .br b t f, h => ⟨fun hb => t2_bind (h.1 hb), fun hb => t2_bind (h.2 hb)⟩
  | .owes ow t, h => ⟨h.1, t2_bind h.2⟩
  | .sure b x t, h => ⟨h.1, t2_bind h.2⟩
  | .loop id c S t, h => ⟨h.1, t2_bind h.2⟩
  | .fail, h => h
theorem t2_block {H : Hyp} {Q : Exit → St2 → Prop} {id : Nat} : ∀ {t : PT2}, (t.inBlock id).sat H Q → t.sat H (fun e S => match e with | .exit j => if j = id then Q .normal S else Q (.exit j) S | e => Q e S)
  | .done e S, h => by
    cases e with
    | exit j =>
      simp only [PT2.inBlock] at h
      cases hj : Nat.beq j id with
      | true =>
        rw [hj] at h
        have := Nat.eq_of_beq_eq_true hj
        subst this
        simp only [PT2.sat, if_true]
        exact h
      | false =>
        rw [hj] at h
        have hne : j ≠ id := fun e => by rw [e, Nat.beq_refl] at hj; cases hj
        simp only [PT2.sat, hne, if_false]
        exact h
    | _ => exact h
  | .br b t f, h => ⟨fun hb => t2_block (h.1 hb), fun hb => t2_block (h.2 hb)⟩
  | .owes ow t, h => ⟨h.1, t2_block h.2⟩
  | .sure b x t, h => ⟨h.1, t2_block h.2⟩
  | .loop i c S t, h => ⟨h.1, t2_block h.2⟩
  | .fail, h => h
theorem t2_mono {H : Hyp} {Q Q' : Exit → St2 → Prop} (hq : ∀ e S, Q e S → Q' e S) : ∀ {t : PT2}, t.sat H Q → t.sat H Q'
  | .done e S, h => hq e S h
  | .br b t f, h => ⟨fun hb => t2_mono hq (h.1 hb), fun hb => t2_mono hq (h.2 hb)⟩
  | .owes ow t, h => ⟨h.1, t2_mono hq h.2⟩
  | .sure b x t, h => ⟨h.1, t2_mono hq h.2⟩
  | .loop id c S t, h => ⟨h.1, t2_mono hq h.2⟩
  | .fail, h => h
theorem leaves_of_sat {H : Hyp} {Q : Exit → St2 → Prop} : ∀ {t : PT2}, noLoop t = true → t.sat H Q → t.leaves Q
  | .done e S, _, h => h
  | .br b t f, hn, h => by
    simp only [noLoop, Bool.and_eq_true] at hn
    exact ⟨fun hb => leaves_of_sat hn.1 (h.1 hb), fun hb => leaves_of_sat hn.2 (h.2 hb)⟩
  | .owes ow t, hn, h => by cases hn
  | .sure b x t, hn, h => by cases hn
  | .loop id c S t, hn, h => by cases hn
  | .fail, hn, h => by cases hn
theorem px2Code_ok {H : Hyp} (hA : AggOk H.E) (hX : ∀ ρ i g, H.n0 ≤ i → H.X ρ → H.X (upd ρ i g)) (hm : H.E.P.follows .mixedOrders = true) : ∀ (c : Code) {S : St2} {Q : Exit → Act → World → Prop} {ρ : Nat → Nat × Nat} {a : Act} {w : World},
    PR H.E H.W0 H.X H.n0 H.ds S ρ a w → (px2Code H c S).sat H (PQ2 H Q) → c.wp H.E.P Q a w
  | .skip, S, Q, ρ, a, w, hR, h => wp_skip (h ρ a w hR)
  | .exit id, S, Q, ρ, a, w, hR, h => wp_exit (h ρ a w hR)
  | .ret, S, Q, ρ, a, w, hR, h => wp_ret (h ρ a w hR)
  | .region id ops d, S, Q, ρ, a, w, hR, h => by
    unfold px2Code at h
    cases d with
    | false =>
      simp only at h
      cases hr : px2Run H.E ops ops.toList S with
      | none => rw [hr] at h; exact h.elim
      | some q =>
        obtain ⟨S', ow⟩ := q
        rw [hr] at h
        have h' : (∀ x ∈ ow, x.paid2 H.E H.W0 H.X) ∧ PQ2 H Q .normal S' := by
          cases ow with
          | nil => exact ⟨(fun x hx => by cases hx), h⟩
          | cons x r => exact h
        exact wp_region_list (px2Run_ok hA hX hr h'.1 hR fun ρ' a' w' hR' => h'.2 ρ' a' w' hR')
    | true =>
      simp only at h
      cases hb' : !(makesB ops.toList) && quietB ops.toList with
      | false =>
        rw [hb'] at h
        simp only at h
        cases hv : pxVars (S.pe H.E) ops S.F S.B.length with
        | none =>
          rw [hv] at h
          simp only at h
          cases ht : pxTail H.E ops S with
          | none => rw [ht] at h; exact h.elim
          | some q =>
            obtain ⟨S', ow⟩ := q
            rw [ht] at h
            simp only at h
            have h' : (∀ x ∈ ow, x.paid2 H.E H.W0 H.X) ∧ PQ2 H Q .normal S' := by
              cases ow with
              | nil => exact ⟨(fun x hx => by cases hx), h⟩
              | cons x r => exact h
            exact px_tail_ok hA hX hm ht h'.1 hR h'.2
        | some q =>
          obtain ⟨ps, vs⟩ := q
          rw [hv] at h
          exact px_vars_ok hA hX hm hv hR h
      | true =>
        rw [hb'] at h
        simp only [Bool.and_eq_true] at hb'
        have hb := hb'.2
        simp only at h
        cases hr : pxRun (S.pe H.E) ops ops.toList S.F with
        | none => rw [hr] at h; exact h.elim
        | some q =>
          obtain ⟨F', ow⟩ := q
          rw [hr] at h
          simp only at h
          cases hl : F'.lt S.B.length with
          | false => rw [hl] at h; exact h.elim
          | true =>
            rw [hl] at h
            have h' : (∀ x ∈ ow, x.paid2 H.E H.W0 H.X) ∧ PQ2 H Q .normal ⟨F', S.B⟩ := by
              cases ow with
              | nil => exact ⟨(fun x hx => by cases hx), h⟩
              | cons x r => exact h
            refine wp_region_quiet5 (C := fun w' => Below w.heap.size w w') hm hb ((Below.refl _ _).drew) (pxRun_ok (E := S.pe H.E) (hR.pe_ok hA) hr (fun x hx => paid_of_paid2 hR (h'.1 x hx)) hR.slots hR.size fun a' h1 h2 h3 w' hw' => h'.2 ρ a' w' (hR.quiet hl h1 h2 h3 hw'))
  | .seq x y, S, Q, ρ, a, w, hR, h => by
    refine wp_seq (px2Code_ok hA hX hm x hR (t2_mono ?_ (t2_bind h)))
    intro e S' h' ρ' a' w' hR'
    cases e with
    | normal => exact px2Code_ok hA hX hm y hR' h'
    | _ => exact h' ρ' a' w' hR'
  | .cond c x y, S, Q, ρ, a, w, hR, h => by
    unfold px2Code at h
    cases hc : pxOpd S.F [] c with
    | none => rw [hc] at h; exact h.elim
    | some s =>
      rw [hc] at h
      cases s with
      | p i k => exact h.elim
      | s _ _ _ _ => exact h.elim
      | v vc =>
        cases vc with
        | bool b =>
          simp only at h
          have he := pxOpd_ok hR.slots (fun g hg => by cases hg) hc
          cases hl : (match c with | .tmp s => H.lit s | _ => true) with
          | true =>
            rw [hl] at h
            cases b with
            | true => exact wp_cond_true he (px2Code_ok hA hX hm x hR h)
            | false => exact wp_cond_false he (px2Code_ok hA hX hm y hR h)
          | false =>
            rw [hl] at h
            simp only at h
            cases hd : (match c with | .tmp s => H.dec s | _ => none) with
            | none =>
              rw [hd] at h
              exact wp_cond_split he (fun hb => px2Code_ok hA hX hm x hR (h.1 hb)) (fun hb => px2Code_ok hA hX hm y hR (h.2 hb))
            | some d =>
              rw [hd] at h
              cases d with
              | true =>
                obtain ⟨hb, h⟩ := h
                subst hb
                exact wp_cond_true he (px2Code_ok hA hX hm x hR h)
              | false =>
                obtain ⟨hb, h⟩ := h
                subst hb
                exact wp_cond_false he (px2Code_ok hA hX hm y hR h)
        | _ => exact h.elim
  | .block id c, S, Q, ρ, a, w, hR, h => by
    unfold px2Code at h
    cases hl : H.loops id with
    | some out =>
      rw [hl] at h
      simp only at h
      cases hn : noLoop (out S) with
      | false => rw [hn] at h; exact h.elim
      | true =>
        rw [hn] at h
        obtain ⟨⟨out', e, h1⟩, h2⟩ := h
        rw [hl] at e
        simp only [Option.some.injEq] at e
        subst e
        exact h1 ρ a w Q hR (leaves_of_sat hn h2)
    | none =>
      rw [hl] at h
      refine wp_block (px2Code_ok hA hX hm c hR (t2_mono ?_ (t2_block h)))
      intro e S' h' ρ' a' w' hR'
      cases e with
      | exit j =>
        simp only [Exit.inBlock]
        by_cases hj : j = id
        · simp only [hj, if_true] at h' ⊢
          exact h' ρ' a' w' hR'
        · simp only [hj, if_false] at h' ⊢
          exact h' ρ' a' w' hR'
      | _ => exact h' ρ' a' w' hR'
  | .loop _, S, Q, ρ, a, w, hR, h => h.elim
  | .rangeFunc .., S, Q, ρ, a, w, hR, h => h.elim
  | .scope _, S, Q, ρ, a, w, hR, h => h.elim
  | .label _, S, Q, ρ, a, w, hR, h => h.elim
  | .goto _, S, Q, ρ, a, w, hR, h => h.elim
  | .refuse _, S, Q, ρ, a, w, hR, h => h.elim
end Go.Proofs.Mem
end
