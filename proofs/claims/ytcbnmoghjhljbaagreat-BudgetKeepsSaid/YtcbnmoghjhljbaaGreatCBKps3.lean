/-
  The symbolic executor: the rule for a whole function, and the rule for a loop.; The symbolic executor: the rule for a loop that counts.; The symbolic executor: rows of an argument as ranges; elements; sums that do not wrap.; Names, plainly: which bytes may stand where ('chB'), and is it a name ('nmB'); The walks of package label: signs and names.; The walks of package trimtabref05: names.; The walks of package trimtabref05: rows of labels that may be.; The walks of package trimtabref05: rows of asks that may be; of package trimtablaw07: whole, sized, wants.; The walks of package trimtablaw07: whole, sized, wants.; The walk of trimtabref06.Empty at any object: are the shapes of other kinds empty? (printed by wip/gen_emg.py); What trimtablaw07.Right says of any object of the kinds 0 to 3; The walks of package label: value, Right; that Right says what the document's rule says.; slices.IndexFunc and slices.ContainsFunc at one function; The walks of package valid: numbers, names, sizes, wants, shapes
-/
import Derived.Test.YtcbnmoghjhljbaaGreatCBKps2
import Derived.Test.YtcbnmoghjhljbaaGreatCBKps1
import Derived.IntWalk
import Derived.Test.YtcbnmoghjhljbaaGreatProg
import Derived.BigQuiet
import Derived.Outline
import Derived.Laws.StructEq
import Derived.WalkLawsBesides
import Derived.Deep.QuietTactic
import Derived.BigRegion
section
namespace Go.Proofs.Mem
open Go.RowKit
set_option linter.unusedVariables false
set_option linter.unusedSimpArgs false
def looks (F : PF) : List Nat → List (Option SV)
  | [] => []
  | k :: r => pxTmp F [] k :: looks F r
def pxRes (P : Program) (S : St2) : List ResultVar → Option (List SV)
  | [] => some []
  | .tmp t :: r => match pxTmp S.F [] t with
    | some v => match pxRes P S r with
      | some l => some (v :: l)
      | none => none
    | none => none
  | .cell t T :: r => match pxTmp S.F [] t with
    | some (.p i k) => match pxLoad P (S.B.map (·.cells)) T i k with
      | some v => match pxRes P S r with
        | some l => some (v :: l)
        | none => none
      | none => none
    | _ => none
def resVal (ρ : Nat → Nat × Nat) : List SV → Value
  | [x] => x.den ρ
  | l => .tuple (l.map (SV.den ρ)).toArray
def resOf (tmps : Array Value) : ResultVar → Sem Value
  | .tmp t => pure (tmps.getD t undef)
  | .cell a t => do loadVar t (← asAddr (tmps.getD a undef))
theorem run_resVar {E : PE} {W0 : World} {X : (Nat → Nat × Nat) → Prop} {n0 : Nat} {ds : List Deferred} {S : St2} {ρ : Nat → Nat × Nat} {a : Act} {w : World} (hR : PR E W0 X n0 ds S ρ a w) :
    ∀ (rs : List ResultVar) (vs : List SV), pxRes E.P S rs = some vs → (rs.mapM (resOf a.tmps)).run E.P w = .ok (vs.map (SV.den ρ)) w
  | [], vs, h => by
    simp only [pxRes, Option.some.injEq] at h
    subst h
    rfl
  | .tmp t :: r, vs, h => by
    unfold pxRes at h
    cases hp : pxTmp S.F [] t with
    | none => rw [hp] at h; cases h
    | some v =>
      rw [hp] at h
      cases hr : pxRes E.P S r with
      | none => rw [hr] at h; cases h
      | some l =>
        rw [hr] at h
        simp only [Option.some.injEq] at h
        subst h
        have h1 := pxTmp_ok hR.slots (fun g hg => by cases hg) hp
        have h3 : (resOf a.tmps (.tmp t)).run E.P w = .ok (v.den ρ) w := by
          unfold resOf
          rw [Sem.run_pure, h1]
        rw [List.mapM_cons, Sem.run_bind, h3, Result.andThen_ok, Sem.run_bind, run_resVar hR r l hr, Result.andThen_ok, Sem.run_pure]
        rfl
  | .cell t T :: r, vs, h => by
    unfold pxRes at h
    cases hp : pxTmp S.F [] t with
    | none => rw [hp] at h; cases h
    | some sv =>
      rw [hp] at h
      cases sv with
      | v x => cases h
      | s _ _ _ _ => cases h
      | p i k =>
        simp only at h
        cases hl : pxLoad E.P (S.B.map (·.cells)) T i k with
        | none => rw [hl] at h; cases h
        | some v =>
          rw [hl] at h
          cases hr : pxRes E.P S r with
          | none => rw [hr] at h; cases h
          | some l =>
            rw [hr] at h
            simp only [Option.some.injEq] at h
            subst h
            have h1 := pxTmp_ok hR.slots (fun g hg => by cases hg) hp
            have h2 := pxLoad_run hl w (hR.ranges (Below.refl _ _))
            simp only [Instr.loadAt, Instr.sureAddr, Sem.run_bind, Sem.run_pure, Result.andThen_ok] at h2
            have h3 : (resOf a.tmps (.cell t T)).run E.P w = .ok (v.den ρ) w := by
              show (do loadVar T (← asAddr (a.tmps.getD t undef)) : Sem Value).run E.P w = _
              rw [h1]
              simp only [SV.den, asAddr, Sem.run_bind, Sem.run_pure, Result.andThen_ok, h2]
            rw [List.mapM_cons, Sem.run_bind, h3, Result.andThen_ok, Sem.run_bind, run_resVar hR r l hr, Result.andThen_ok, Sem.run_pure]
            rfl
theorem run_results {E : PE} {W0 : World} {X : (Nat → Nat × Nat) → Prop} {n0 : Nat} {ds : List Deferred} {S : St2} {ρ : Nat → Nat × Nat} {a : Act} {w : World} (hR : PR E W0 X n0 ds S ρ a w) {fn : Func} {vs : List SV} (h : pxRes E.P S fn.results.toList = some vs) :
    (results fn a.tmps).run E.P w = .ok (resVal ρ vs) w := by
  have h1 := run_resVar hR fn.results.toList vs h
  have e : results fn a.tmps = (do let vs ← fn.results.mapM (resOf a.tmps); pure (if h : vs.size = 1 then vs[0] else .tuple vs)) := by
    unfold results
    congr 1
  rw [e, Sem.run_bind, Array.mapM_eq_mapM_toList]
  have h2 : (List.toArray <$> fn.results.toList.mapM (resOf a.tmps) : Sem (Array Value)).run E.P w = .ok (vs.map (SV.den ρ)).toArray w := by
    rw [map_eq_pure_bind, Sem.run_bind, h1]
    rfl
  rw [h2, Result.andThen_ok, Sem.run_pure]
  congr 1
  cases vs with
  | nil => rfl
  | cons x r => cases r with
    | nil => rfl
    | cons y r => simp [resVal]
structure Duty where
  ow : List Owed
  lp : List (Nat × Code × List (Option SV) × List Blk)
  su : List (Bool × Bool)
def Duty.nil : Duty := ⟨[], [], []⟩
def Duty.app (a b : Duty) : Duty := ⟨a.ow ++ b.ow, a.lp ++ b.lp, a.su ++ b.su⟩
structure Sum where
  du : Duty
  vs : List SV
def pickL (b : Bool) : List SV → List SV → Option (List SV)
  | [], [] => some []
  | .v x :: r, .v y :: q => match pickL b r q with
    | some l => some (.v (pickV b x y) :: l)
    | none => none
  | _, _ => none
theorem pickL_eq {b : Bool} : ∀ {xs ys l : List SV}, pickL b xs ys = some l → l = if b then xs else ys
  | [], [], l, h => by simp only [pickL, Option.some.injEq] at h; subst h; cases b <;> rfl
  | .v x :: r, .v y :: q, l, h => by
    unfold pickL at h
    cases hr : pickL b r q with
    | none => rw [hr] at h; cases h
    | some m =>
      rw [hr] at h
      simp only [Option.some.injEq] at h
      subst h
      rw [pickL_eq hr, pickV_eq]
      cases b <;> rfl
  | .p _ _ :: _, _, l, h => by simp [pickL] at h
  | .s _ _ _ _ :: _, _, l, h => by simp [pickL] at h
  | .v _ :: _, .s _ _ _ _ :: _, l, h => by simp [pickL] at h
  | .v _ :: _, .p _ _ :: _, l, h => by simp [pickL] at h
  | [], _ :: _, l, h => by simp [pickL] at h
  | .v _ :: _, [], l, h => by simp [pickL] at h
def ends : Exit → Bool
  | .ret => true
  | .normal => true
  | _ => false
def PT2.sum (P : Program) (rs : List ResultVar) (ks : Nat → List Nat) : PT2 → Option Sum
  | .done e S => match ends e with
    | true => match pxRes P S rs with
      | some vs => some ⟨.nil, vs⟩
      | none => none
    | false => none
  | .br b t f => match t.sum P rs ks with
    | some s => match f.sum P rs ks with
      | some u => match pickL b s.vs u.vs with
        | some vs => some ⟨s.du.app u.du, vs⟩
        | none => none
      | none => none
    | none => none
  | .owes ow t => match t.sum P rs ks with
    | some s => some ⟨⟨ow ++ s.du.ow, s.du.lp, s.du.su⟩, s.vs⟩
    | none => none
  | .sure b x t => match t.sum P rs ks with
    | some s => some ⟨⟨s.du.ow, s.du.lp, (b, x) :: s.du.su⟩, s.vs⟩
    | none => none
  | .loop id c S k => match k.sum P rs ks with
    | some s => some ⟨⟨s.du.ow, (id, c, looks S.F (ks id), S.B) :: s.du.lp, s.du.su⟩, s.vs⟩
    | none => none
  | .fail => none
def LoopSpec (H : Hyp) (ks : Nat → List Nat) (q : Nat × Code × List (Option SV) × List Blk) : Prop := ∃ out, H.loops q.1 = some out ∧ ∀ S : St2, looks S.F (ks q.1) = q.2.2.1 → S.B = q.2.2.2 → H.loopOk q.1 q.2.1 S (out S)
structure Duty.Ok (H : Hyp) (ks : Nat → List Nat) (d : Duty) : Prop where
  ow : ∀ x ∈ d.ow, x.paid2 H.E H.W0 H.X
  lp : ∀ q ∈ d.lp, LoopSpec H ks q
  su : ∀ p ∈ d.su, p.1 = p.2
theorem Duty.Ok.left {H : Hyp} {ks : Nat → List Nat} {a b : Duty} (h : (a.app b).Ok H ks) : a.Ok H ks := ⟨fun x hx => h.ow x (List.mem_append_left _ hx), fun x hx => h.lp x (List.mem_append_left _ hx), fun x hx => h.su x (List.mem_append_left _ hx)⟩
theorem Duty.Ok.right {H : Hyp} {ks : Nat → List Nat} {a b : Duty} (h : (a.app b).Ok H ks) : b.Ok H ks := ⟨fun x hx => h.ow x (List.mem_append_right _ hx), fun x hx => h.lp x (List.mem_append_right _ hx), fun x hx => h.su x (List.mem_append_right _ hx)⟩
theorem sum_sat {H : Hyp} {rs : List ResultVar} {ks : Nat → List Nat} {Q : Exit → Act → World → Prop} : ∀ {t : PT2} {s : Sum}, t.sum H.E.P rs ks = some s → s.du.Ok H ks →
    (∀ e S ρ a w, ends e = true → pxRes H.E.P S rs = some s.vs → PR H.E H.W0 H.X H.n0 H.ds S ρ a w → Q e a w) → t.sat H (PQ2 H Q)
  | .done e S, s, h, hD, hq => by
    unfold PT2.sum at h
    cases he : ends e with
    | false => rw [he] at h; cases h
    | true =>
      rw [he] at h
      simp only at h
      cases hr : pxRes H.E.P S rs with
      | none => rw [hr] at h; cases h
      | some vs =>
        rw [hr] at h
        simp only [Option.some.injEq] at h
        subst h
        exact fun ρ a w hR => hq e S ρ a w he hr hR
  | .br b t f, s, h, hD, hq => by
    unfold PT2.sum at h
    cases ht : t.sum H.E.P rs ks with
    | none => rw [ht] at h; cases h
    | some s1 =>
      rw [ht] at h
      simp only at h
      cases hf : f.sum H.E.P rs ks with
      | none => rw [hf] at h; cases h
      | some s2 =>
        rw [hf] at h
        simp only at h
        cases hp : pickL b s1.vs s2.vs with
        | none => rw [hp] at h; cases h
        | some vs =>
          rw [hp] at h
          simp only [Option.some.injEq] at h
          subst h
          have hpe := pickL_eq hp
          refine ⟨fun hb => sum_sat ht hD.left fun e S ρ a w he hr hR => hq e S ρ a w he (by rw [hr]; simp [hpe, hb]) hR,
            fun hb => sum_sat hf hD.right fun e S ρ a w he hr hR => hq e S ρ a w he (by rw [hr]; simp [hpe, hb]) hR⟩
  | .owes ow t, s, h, hD, hq => by
    unfold PT2.sum at h
    cases ht : t.sum H.E.P rs ks with
    | none => rw [ht] at h; cases h
    | some s1 =>
      rw [ht] at h
      simp only [Option.some.injEq] at h
      subst h
      exact ⟨fun x hx => hD.ow x (List.mem_append_left _ hx), sum_sat ht ⟨fun x hx => hD.ow x (List.mem_append_right _ hx), hD.lp, hD.su⟩ hq⟩
  | .sure b x t, s, h, hD, hq => by
    unfold PT2.sum at h
    cases ht : t.sum H.E.P rs ks with
    | none => rw [ht] at h; cases h
    | some s1 =>
      rw [ht] at h
      simp only [Option.some.injEq] at h
      subst h
      exact ⟨hD.su _ (List.mem_cons_self ..), sum_sat ht ⟨hD.ow, hD.lp, fun p hp => hD.su p (List.mem_cons_of_mem _ hp)⟩ hq⟩
  | .loop id c S t, s, h, hD, hq => by
    unfold PT2.sum at h
    cases ht : t.sum H.E.P rs ks with
    | none => rw [ht] at h; cases h
    | some s1 =>
      rw [ht] at h
      simp only [Option.some.injEq] at h
      subst h
      obtain ⟨out, e1, h1⟩ := hD.lp _ (List.mem_cons_self ..)
      exact ⟨⟨out, e1, h1 S rfl rfl⟩, sum_sat ht ⟨hD.ow, fun q hq' => hD.lp q (List.mem_cons_of_mem _ hq'), hD.su⟩ hq⟩
  | .fail, s, h, hD, hq => by cases h
def argF : Nat → List SV → PF
  | _, [] => []
  | i, x :: r => (i, ⟨x, none⟩) :: argF (i + 1) r
theorem argF_ok {ρ : Nat → Nat × Nat} {R : Array Value} : ∀ (l : List SV) (i : Nat), (∀ j v, l[j]? = some v → R.getD (i + j) undef = v.den ρ) → (argF i l).Ok ρ R
  | [], _, _ => PF.ok_nil
  | x :: r, i, h => PF.ok_cons (h 0 x rfl) (argF_ok r (i + 1) fun j v hj => by rw [show i + 1 + j = i + (j + 1) by omega]; exact h (j + 1) v hj)
theorem argF_lt : ∀ (l : List SV) (i n : Nat), (∀ v ∈ l, v.lt n = true) → (argF i l).lt n = true
  | [], _, _, _ => rfl
  | x :: r, i, n, h => by
    unfold argF PF.lt
    rw [h x (List.mem_cons_self ..)]
    exact argF_lt r (i + 1) n fun v hv => h v (List.mem_cons_of_mem _ hv)
theorem px_calls {H : Hyp} {f : FuncId} {fn : Func} {c : Code} {args : List SV} {B : List Blk} {ρ0 : Nat → Nat × Nat} {R : Ending → World → Prop} (hA : AggOk H.E) (hX : ∀ ρ i g, H.n0 ≤ i → H.X ρ → H.X (upd ρ i g)) (hm : H.E.P.follows .mixedOrders = true)
    (hf : H.E.P.funcs[f]? = some fn) (hb : fn.body = some c) (hn : fn.ntmps = H.E.n) (ha : args.length ≤ fn.ntmps) (hds : H.ds = [])
    (hlt : ∀ v ∈ args, v.lt B.length = true) (h0 : H.X ρ0) (hn0 : H.n0 ≤ B.length) (hfor : ∀ i b, B[i]? = some b → b.own = false ∧ (ρ0 i).1 < H.W0.heap.size ∧ H.W0.rangeAt (ρ0 i).1 (ρ0 i).2 b.cells)
    (ks : Nat → List Nat) (du : Duty) (vs : List SV)
    (hs : (px2Code H c ⟨argF 0 args, B⟩).sum H.E.P fn.results.toList ks = some ⟨du, vs⟩) (hD : du.Ok H ks)
    (hR : ∀ ρ w', H.X ρ → Below H.W0.heap.size H.W0 w' → R (.returned (resVal ρ vs)) w') : Calls H.E.P f (args.map (SV.den ρ0)).toArray H.W0 R := by
  refine calls_of_wp hf hb (px2Code_ok hA hX hm c (S := ⟨argF 0 args, B⟩) (ρ := ρ0) ?_ (sum_sat hs hD ?_))
  · refine ⟨argF_ok args 0 fun j v hj => ?_, argF_lt args 0 _ hlt, ?_, hds.symm, Below.refl _ _, h0, hn0, ?_, ?_, ?_⟩
    · have hjl := (List.getElem?_eq_some_iff.1 hj).1
      rw [Array.getD_eq_getD_getElem?, Array.getElem?_append_left (by simp; omega)]
      simp [hj]
    · simp
      omega
    · intro i b hB ho
      have := (hfor i b hB).1
      rw [this] at ho
      cases ho
    · intro i b hB _
      refine ⟨(hfor i b hB).2.1, (hfor i b hB).2.2, fun j c hj hjo => ?_⟩
      rw [(hfor j c hj).1] at hjo
      cases hjo
    · intro i j bi bj hi hj ho
      have := (hfor i bi hi).1
      rw [this] at ho
      cases ho
  · intro e S ρ a w he hr hPR
    have h1 := run_results hPR hr
    have h2 := hR ρ w hPR.ext hPR.below
    have h3 : a.defers = [] := hPR.defers.trans hds
    cases e with
    | ret => exact bodyPost_ret h1 h3 h2
    | normal => exact bodyPost_end h1 h3 h2
    | _ => cases he
/-! ## Loops -/
inductive V2 where
  | norm (vs : List (Option SV)) (B : List Blk)
  | exit (vs : List (Option SV)) (B : List Blk)
  | ret (vs : List (Option SV)) (B : List Blk)
  | br (b : Bool) (t f : V2)
def V2.sat (N X R : List (Option SV) → List Blk → Prop) : V2 → Prop
  | .norm vs B => N vs B
  | .exit vs B => X vs B
  | .ret vs B => R vs B
  | .br b t f => (b = true → t.sat N X R) ∧ (b = false → f.sat N X R)
def PT2.view (id : Nat) (kn kx kr : List Nat) (m : Nat) (ks : Nat → List Nat) : PT2 → Option (V2 × Duty)
  | .done e S => match e with
    | .normal => some (.norm (looks S.F kn) (S.B.take m), .nil)
    | .exit j => match Nat.beq j id with
      | true => some (.exit (looks S.F kx) (S.B.take m), .nil)
      | false => none
    | .ret => some (.ret (looks S.F kr) (S.B.take m), .nil)
    | _ => none
  | .br b t f => match t.view id kn kx kr m ks with
    | some (v, d) => match f.view id kn kx kr m ks with
      | some (u, d') => some (.br b v u, d.app d')
      | none => none
    | none => none
  | .owes ow t => match t.view id kn kx kr m ks with
    | some (v, d) => some (v, ⟨ow ++ d.ow, d.lp, d.su⟩)
    | none => none
  | .sure b x t => match t.view id kn kx kr m ks with
    | some (v, d) => some (v, ⟨d.ow, d.lp, (b, x) :: d.su⟩)
    | none => none
  | .loop i c S k => match k.view id kn kx kr m ks with
    | some (v, d) => some (v, ⟨d.ow, (i, c, looks S.F (ks i), S.B) :: d.lp, d.su⟩)
    | none => none
  | .fail => none
theorem view_sat {H : Hyp} {id m : Nat} {kn kx kr : List Nat} {ks : Nat → List Nat} {N X R : List (Option SV) → List Blk → Prop} {Q : Exit → Act → World → Prop}
    (hN : ∀ S ρ a w, N (looks S.F kn) (S.B.take m) → PR H.E H.W0 H.X H.n0 H.ds S ρ a w → Q .normal a w) (hX : ∀ S ρ a w, X (looks S.F kx) (S.B.take m) → PR H.E H.W0 H.X H.n0 H.ds S ρ a w → Q (.exit id) a w) (hR : ∀ S ρ a w, R (looks S.F kr) (S.B.take m) → PR H.E H.W0 H.X H.n0 H.ds S ρ a w → Q .ret a w) :
    ∀ {t : PT2} {v : V2} {d : Duty}, t.view id kn kx kr m ks = some (v, d) → d.Ok H ks → v.sat N X R → t.sat H (PQ2 H Q)
  | .done e S, v, d, h, hD, hv => by
    unfold PT2.view at h
    cases e with
    | normal =>
      simp only [Option.some.injEq, Prod.mk.injEq] at h
      obtain ⟨rfl, rfl⟩ := h
      exact fun ρ a w hP => hN S ρ a w hv hP
    | exit j =>
      simp only at h
      cases hj : Nat.beq j id with
      | false => rw [hj] at h; cases h
      | true =>
        rw [hj] at h
        simp only [Option.some.injEq, Prod.mk.injEq] at h
        obtain ⟨rfl, rfl⟩ := h
        have := Nat.eq_of_beq_eq_true hj
        subst this
        exact fun ρ a w hP => hX S ρ a w hv hP
    | ret =>
      simp only [Option.some.injEq, Prod.mk.injEq] at h
      obtain ⟨rfl, rfl⟩ := h
      exact fun ρ a w hP => hR S ρ a w hv hP
    | _ => cases h
  | .br b t f, v, d, h, hD, hv => by
    unfold PT2.view at h
    cases ht : t.view id kn kx kr m ks with
    | none => rw [ht] at h; cases h
    | some q =>
      obtain ⟨v1, d1⟩ := q
      rw [ht] at h
      simp only at h
      cases hf : f.view id kn kx kr m ks with
      | none => rw [hf] at h; cases h
      | some q =>
        obtain ⟨v2, d2⟩ := q
        rw [hf] at h
        simp only [Option.some.injEq, Prod.mk.injEq] at h
        obtain ⟨rfl, rfl⟩ := h
        exact ⟨fun hb => view_sat hN hX hR ht hD.left (hv.1 hb), fun hb => view_sat hN hX hR hf hD.right (hv.2 hb)⟩
  | .owes ow t, v, d, h, hD, hv => by
    unfold PT2.view at h
    cases ht : t.view id kn kx kr m ks with
    | none => rw [ht] at h; cases h
    | some q =>
      obtain ⟨v1, d1⟩ := q
      rw [ht] at h
      simp only [Option.some.injEq, Prod.mk.injEq] at h
      obtain ⟨rfl, rfl⟩ := h
      exact ⟨fun x hx => hD.ow x (List.mem_append_left _ hx), view_sat hN hX hR ht ⟨fun x hx => hD.ow x (List.mem_append_right _ hx), hD.lp, hD.su⟩ hv⟩
  | .sure b x t, v, d, h, hD, hv => by
    unfold PT2.view at h
    cases ht : t.view id kn kx kr m ks with
    | none => rw [ht] at h; cases h
    | some q =>
      obtain ⟨v1, d1⟩ := q
      rw [ht] at h
      simp only [Option.some.injEq, Prod.mk.injEq] at h
      obtain ⟨rfl, rfl⟩ := h
      exact ⟨hD.su _ (List.mem_cons_self ..), view_sat hN hX hR ht ⟨hD.ow, hD.lp, fun p hp => hD.su p (List.mem_cons_of_mem _ hp)⟩ hv⟩
  | .loop i c S t, v, d, h, hD, hv => by
    unfold PT2.view at h
    cases ht : t.view id kn kx kr m ks with
    | none => rw [ht] at h; cases h
    | some q =>
      obtain ⟨v1, d1⟩ := q
      rw [ht] at h
      simp only [Option.some.injEq, Prod.mk.injEq] at h
      obtain ⟨rfl, rfl⟩ := h
      obtain ⟨out, e1, h1⟩ := hD.lp _ (List.mem_cons_self ..)
      exact ⟨⟨out, e1, h1 S rfl rfl⟩, view_sat hN hX hR ht ⟨hD.ow, fun q hq' => hD.lp q (List.mem_cons_of_mem _ hq'), hD.su⟩ hv⟩
  | .fail, v, d, h, hD, hv => by cases h
def mkF : List Nat → List SV → PF
  | k :: ks, v :: vs => (k, ⟨v, none⟩) :: mkF ks vs
  | _, _ => []
theorem mkF_ok {ρ : Nat → Nat × Nat} {F : PF} {R : Array Value} (hF : F.Ok ρ R) : ∀ {ks : List Nat} {vs : List SV}, looks F ks = vs.map some → (mkF ks vs).Ok ρ R
  | [], vs, _ => by cases vs <;> exact PF.ok_nil
  | k :: ks, [], h => PF.ok_nil
  | k :: ks, v :: vs, h => by
    unfold looks at h
    rw [List.map_cons] at h
    injection h with h1 h2
    exact PF.ok_cons (pxTmp_ok hF (fun g hg => by cases hg) h1) (mkF_ok hF h2)
theorem PR.forget {E E' : PE} {W0 : World} {X X' : (Nat → Nat × Nat) → Prop} {n0 n1 : Nat} {ds : List Deferred} {S : St2} {ρ : Nat → Nat × Nat} {a : Act} {w : World} (h : PR E W0 X n0 ds S ρ a w) {F' : PF} {B' : List Blk} (he : E'.n = E.n) (hB : S.B.take B'.length = B') (hX' : X' ρ) (hn : n1 ≤ B'.length) (hF : F'.Ok ρ a.tmps) (hl : F'.lt B'.length = true) :
    PR E' W0 X' n1 ds ⟨F', B'⟩ ρ a w := by
  have get : ∀ (i : Nat) (b : Blk), B'[i]? = some b → S.B[i]? = some b := by
    intro i b hb
    rw [← hB] at hb
    have hi := (List.getElem?_eq_some_iff.1 hb).1
    rw [List.length_take] at hi
    rwa [List.getElem?_take_of_lt (by omega)] at hb
  exact ⟨hF, hl, by rw [he]; exact h.size, h.defers, h.below, hX', hn, fun i b hb ho => h.own i b (get i b hb) ho, fun i b hb ho => by obtain ⟨x, y, z⟩ := h.foreign i b (get i b hb) ho; exact ⟨x, y, fun j c hj => z j c (get j c hj)⟩, fun i j bi bj hi hj => h.apart i j bi bj (get i bi hi) (get j bj hj)⟩
theorem PR.more {E E' : PE} {W0 : World} {X : (Nat → Nat × Nat) → Prop} {n0 : Nat} {ds : List Deferred} {S : St2} {ρ : Nat → Nat × Nat} {a : Act} {w : World} (h : PR E W0 X n0 ds S ρ a w) (hX : ∀ ρ i g, n0 ≤ i → X ρ → X (upd ρ i g)) (he : E'.n = E.n) (b : Blk) (g : Nat × Nat) (ho : b.own = false) (hg : g.1 < W0.heap.size) (hr : W0.rangeAt g.1 g.2 b.cells) :
    PR E' W0 X n0 ds ⟨S.F, S.B ++ [b]⟩ (upd ρ S.B.length g) a w := by
  refine ⟨PF.ok_upd h.slots h.lt (Nat.le_refl _), PF.lt_mono (by simp) h.lt, by rw [he]; exact h.size, h.defers, h.below, hX _ _ _ h.nle h.ext, by have := h.nle; simp; omega, ?_, ?_, ?_⟩
  · intro i c hc hco
    rcases get_snoc hc with ⟨hi, hc⟩ | ⟨rfl, rfl⟩
    · rw [upd_far _ _ (by omega)]; exact h.own i c hc hco
    · rw [ho] at hco; cases hco
  · intro i c hc hco
    rcases get_snoc hc with ⟨hi, hc⟩ | ⟨rfl, rfl⟩
    · rw [upd_far _ _ (by omega)]
      obtain ⟨x, y, z⟩ := h.foreign i c hc hco
      refine ⟨x, y, fun j d hj hjo => ?_⟩
      rcases get_snoc hj with ⟨hj1, hj⟩ | ⟨rfl, rfl⟩
      · rw [upd_far _ _ (by omega)]; exact z j d hj hjo
      · rw [ho] at hjo; cases hjo
    · rw [upd_at]
      refine ⟨Nat.lt_of_lt_of_le hg h.below.size, range_below hr hg h.below, fun j d hj hjo => ?_⟩
      rcases get_snoc hj with ⟨hj1, hj⟩ | ⟨rfl, rfl⟩
      · rw [upd_far _ _ (by omega)]
        have := (h.own j d hj hjo).2.1
        omega
      · rw [ho] at hjo; cases hjo
  · intro i j bi bj hi hj hoi hoj he'
    rcases get_snoc hi with ⟨hi1, hi⟩ | ⟨rfl, rfl⟩
    · rcases get_snoc hj with ⟨hj1, hj⟩ | ⟨rfl, rfl⟩
      · rw [upd_far _ _ (by omega), upd_far _ _ (by omega)] at he'
        exact h.apart i j bi bj hi hj hoi hoj he'
      · rw [ho] at hoj; cases hoj
    · rw [ho] at hoi; cases hoi
end Go.Proofs.Mem
end
section
namespace Go.Proofs.Mem
open Go.RowKit
set_option linter.unusedVariables false
set_option linter.unusedSimpArgs false
def extB : Option (Blk × (Nat × Nat)) → List Blk
  | none => []
  | some x => [x.1]
def Hyp.round (H : Hyp) (m : Nat) (call : Nat → Option SV) (gl : Nat → Bool) (dec : Nat → Option Bool) (ext : Option (Blk × (Nat × Nat))) : Hyp :=
  { H with E := { H.E with call := call, gl := gl }, X := fun ρ => H.X ρ ∧ ∀ x, ext = some x → ρ m = x.2, n0 := m + (extB ext).length, dec := dec }
theorem get_head {k : Nat} {ks : List Nat} {v : SV} {vs : List SV} : (mkF (k :: ks) (v :: vs)).get k = some ⟨v, none⟩ := by
  unfold mkF PF.get
  rw [Nat.beq_refl]
theorem take_take_len {α : Type} (l : List α) (m : Nat) : l.take (l.take m).length = l.take m := by
  rw [List.length_take]
  rcases Nat.le_total m l.length with h | h
  · rw [Nat.min_eq_left h]
  · rw [Nat.min_eq_right h, List.take_length, List.take_of_length_le h]
theorem px_loop {H : Hyp} (hA : AggOk H.E) (hX : ∀ ρ i g, H.n0 ≤ i → H.X ρ → H.X (upd ρ i g)) (hm : H.E.P.follows .mixedOrders = true) {id : Nat} {body : Code} {out : PT2} (hout : H.loops id = some (fun _ => out)) (lks : Nat → List Nat) {K : IntKind} {s : Nat} {ks kx kr : List Nat} (hks : lks id = s :: ks)
    (n m : Nat) (J : Nat → Prop) (hJ0 : J 0) (inv : Nat → List SV) (Bs : Nat → List Blk) (ext : Nat → Option (Blk × (Nat × Nat))) (call : Nat → Nat → Option SV) (gl : Nat → Nat → Bool) (dec : Nat → Nat → Option Bool)
    (hlen : ∀ k, k ≤ n → (Bs k).length = m) (hlt : ∀ k, k ≤ n → (mkF (s :: ks) (.v (.int K (k : Int)) :: inv k)).lt m = true) (hext : ∀ k x, ext k = some x → x.1.own = false ∧ x.2.1 < H.W0.heap.size ∧ H.W0.rangeAt x.2.1 x.2.2 x.1.cells) (hn0 : H.n0 ≤ m)
    (hround : ∀ k, k ≤ n → J k → ∃ V d, (px2Code (H.round m (call k) (gl k) (dec k) (ext k)) body ⟨mkF (s :: ks) (.v (.int K (k : Int)) :: inv k), Bs k ++ extB (ext k)⟩).view id (s :: ks) kx kr m lks = some (V, d) ∧ d.Ok (H.round m (call k) (gl k) (dec k) (ext k)) lks ∧
      V.sat (fun vs B => k < n ∧ J (k + 1) ∧ vs = (SV.v (.int K ((k + 1 : Nat) : Int)) :: inv (k + 1)).map some ∧ B = Bs (k + 1))
        (fun vs B => ∃ xs, vs = xs.map some ∧ (mkF kx xs).lt m = true ∧ ∀ Q, out.leaves Q → Q .normal ⟨mkF kx xs, B⟩)
        (fun vs B => ∃ xs, vs = xs.map some ∧ (mkF kr xs).lt m = true ∧ ∀ Q, out.leaves Q → Q .ret ⟨mkF kr xs, B⟩)) :
    LoopSpec H lks (id, .loop body, (SV.v (.int K 0) :: inv 0).map some, Bs 0) := by
  refine ⟨fun _ => out, hout, fun S hl hB ρ a w Q hR hleaves => ?_⟩
  simp only at hl hB
  rw [hks] at hl
  refine wp_block (wp_loop (I := fun a w => ∃ (k : Nat) (ρ : Nat → Nat × Nat), k ≤ n ∧ J k ∧ PR H.E H.W0 H.X H.n0 H.ds ⟨mkF (s :: ks) (.v (.int K (k : Int)) :: inv k), Bs k⟩ ρ a w) (μ := fun a w => n - (intOf (a.tmps.getD s undef)).toNat) ?_ ?_)
  · refine ⟨0, ρ, Nat.zero_le _, hJ0, hR.forget rfl (by rw [hB, List.take_length]) hR.ext (by rw [hlen 0 (Nat.zero_le _)]; exact hn0) (mkF_ok hR.slots hl) (by rw [hlen 0 (Nat.zero_le _)]; exact hlt 0 (Nat.zero_le _))⟩
  · rintro a w ⟨k, ρ, hk, hJ, hP⟩
    obtain ⟨V, d, hv, hd, hsat⟩ := hround k hk hJ
    have hl0 := hlen k hk
    have hXk : ∀ ρ i g, (H.round m (call k) (gl k) (dec k) (ext k)).n0 ≤ i → (H.round m (call k) (gl k) (dec k) (ext k)).X ρ → (H.round m (call k) (gl k) (dec k) (ext k)).X (upd ρ i g) := by
      intro ρ i g hi ⟨h1, h2⟩
      have hi' : m + (extB (ext k)).length ≤ i := hi
      refine ⟨hX ρ i g (by omega) h1, fun x hx => ?_⟩
      rw [hx] at hi'
      simp only [extB, List.length_cons, List.length_nil] at hi'
      rw [upd_far _ _ (by omega)]
      exact h2 x hx
    have hcnt : a.tmps.getD s undef = .int K (k : Int) := hP.slots s _ get_head
    have hPk : ∃ ρ', PR (H.round m (call k) (gl k) (dec k) (ext k)).E H.W0 (H.round m (call k) (gl k) (dec k) (ext k)).X (H.round m (call k) (gl k) (dec k) (ext k)).n0 H.ds ⟨mkF (s :: ks) (.v (.int K (k : Int)) :: inv k), Bs k ++ extB (ext k)⟩ ρ' a w := by
      cases hx : ext k with
      | none =>
        refine ⟨ρ, hP.forget rfl (by simp [extB]) ⟨hP.ext, fun x hx' => by cases hx'⟩ (by show m + _ ≤ _; simp [extB, hl0]) hP.slots (by simpa [extB] using hP.lt)⟩
      | some x =>
        obtain ⟨x1, x2, x3⟩ := hext k x hx
        have h := hP.more hX (E' := H.E) rfl x.1 x.2 x1 x2 x3
        refine ⟨upd ρ (Bs k).length x.2, h.forget rfl (List.take_of_length_le (by simp [extB])) ⟨h.ext, fun y hy => ?_⟩ (by show m + _ ≤ _; simp [extB, hl0]) h.slots (by simpa [extB] using h.lt)⟩
        simp only [Option.some.injEq] at hy
        subst hy
        rw [← hl0, upd_at]
    obtain ⟨ρ', hP'⟩ := hPk
    have hnm : m ≤ (H.round m (call k) (gl k) (dec k) (ext k)).n0 := Nat.le_add_right _ _
    refine px2Code_ok (H := H.round m (call k) (gl k) (dec k) (ext k)) hA hXk hm body hP' (view_sat ?_ ?_ ?_ hv hd hsat)
    · rintro S' ρ1 a1 w1 ⟨hkn, hJ1, e1, e2⟩ hP1
      have hl1 := hlen (k + 1) hkn
      have hc1 : a1.tmps.getD s undef = .int K ((k + 1 : Nat) : Int) := by
        unfold looks at e1
        rw [List.map_cons] at e1
        injection e1 with e1 _
        exact pxTmp_ok hP1.slots (fun g hg => by cases hg) e1
      refine ⟨⟨k + 1, ρ1, hkn, hJ1, hP1.forget rfl (by rw [hl1]; exact e2) hP1.ext.1 (by rw [hl1]; exact hn0) (mkF_ok hP1.slots e1) (by rw [hl1]; exact hlt (k + 1) hkn)⟩, ?_⟩
      show n - (intOf (a1.tmps.getD s undef)).toNat < n - (intOf (a.tmps.getD s undef)).toNat
      rw [hc1, hcnt]
      simp only [intOf]
      omega
    · rintro S' ρ1 a1 w1 ⟨xs, e1, e2, hq⟩ hP1
      have hm1 : m ≤ S'.B.length := Nat.le_trans hnm hP1.nle
      have hlen1 : (S'.B.take m).length = m := by rw [List.length_take]; omega
      show Exit.inBlock id Q (.exit id) a1 w1
      simp only [Exit.inBlock, if_true]
      exact hq (fun e S'' => ∀ ρ' a' w', PR H.E H.W0 H.X H.n0 H.ds S'' ρ' a' w' → Q e a' w') hleaves ρ1 a1 w1 (hP1.forget rfl (by rw [take_take_len]) hP1.ext.1 (by rw [hlen1]; exact hn0) (mkF_ok hP1.slots e1) (by rw [hlen1]; exact e2))
    · rintro S' ρ1 a1 w1 ⟨xs, e1, e2, hq⟩ hP1
      have hm1 : m ≤ S'.B.length := Nat.le_trans hnm hP1.nle
      have hlen1 : (S'.B.take m).length = m := by rw [List.length_take]; omega
      show Exit.inBlock id Q .ret a1 w1
      simp only [Exit.inBlock]
      exact hq (fun e S'' => ∀ ρ' a' w', PR H.E H.W0 H.X H.n0 H.ds S'' ρ' a' w' → Q e a' w') hleaves ρ1 a1 w1 (hP1.forget rfl (by rw [take_take_len]) hP1.ext.1 (by rw [hlen1]; exact hn0) (mkF_ok hP1.slots e1) (by rw [hlen1]; exact e2))
def Code.find (id : Nat) : Code → Option Code
  | .seq a b => match Code.find id a with
    | some c => some c
    | none => Code.find id b
  | .cond _ a b => match Code.find id a with
    | some c => some c
    | none => Code.find id b
  | .block i c => match Nat.beq i id with
    | true => some c
    | false => Code.find id c
  | .loop c => Code.find id c
  | .scope c => Code.find id c
  | _ => none
def loopBody (fn : Func) (id : Nat) : Code := match Code.find id (fn.body.getD .skip) with
  | some (.loop c) => c
  | _ => .skip
end Go.Proofs.Mem
end
section
namespace Go.Proofs.Mem
open Go.RowKit
set_option linter.unusedVariables false
set_option linter.unusedSimpArgs false
theorem row_range {α : Type} {w : World} {s bytes : Nat} {f : α → List Value} {p : α → Prop} {r : Row α} (hs : 0 < s) (hf : ∀ x, (f x).length = s) (h : r.Ok w s bytes f p) (h0 : 0 < r.l.length) :
    ∃ b o c, r.v = .slice (some ⟨b, o, none⟩) r.l.length c ∧ b < w.heap.size ∧ w.rangeAt b o (r.l.flatMap f) := by
  obtain ⟨h1, _, _⟩ := h
  obtain ⟨A, c, e, hc, hn, hl, hx⟩ := id h1
  obtain ⟨ad, e1, hb, hcell⟩ := hx h0
  subst e1
  have hlen := flat_len' f hf r.l
  have h00 : (r.l.flatMap f)[0]? = some ((r.l.flatMap f)[0]'(by rw [hlen]; exact Nat.mul_pos h0 hs)) := List.getElem?_eq_getElem _
  have hc0 := hcell 0 _ h00
  obtain ⟨b, o, sp⟩ := ad
  have hsp : sp = none := World.cell?_spot hc0
  subst hsp
  refine ⟨b, o, c, e, hb, fun j v hj => ?_⟩
  have := hcell j v hj
  rwa [add_lit] at this
theorem range_sub {w : World} {b o : Nat} {cs : List Value} (h : w.rangeAt b o cs) (i n : Nat) : w.rangeAt b (o + i) ((cs.drop i).take n) := by
  intro j v hj
  have hj1 := (List.getElem?_eq_some_iff.1 hj).1
  rw [List.length_take] at hj1
  rw [List.getElem?_take_of_lt (by omega), List.getElem?_drop] at hj
  have := h (i + j) v hj
  rwa [← Nat.add_assoc] at this
theorem flat_at {α : Type} {s : Nat} (f : α → List Value) (hf : ∀ x, (f x).length = s) : ∀ (l : List α) (k : Nat) (h : k < l.length), ((l.flatMap f).drop (k * s)).take s = f l[k]
  | x :: l, 0, _ => by
    rw [Nat.zero_mul, List.drop_zero, List.flatMap_cons, List.take_append_of_le_length (by rw [hf]; exact Nat.le_refl _), List.take_of_length_le (by rw [hf]; exact Nat.le_refl _)]
    rfl
  | x :: l, k + 1, h => by
    rw [List.flatMap_cons, Nat.succ_mul, List.drop_append, List.drop_of_length_le (by rw [hf]; omega), List.nil_append, hf, Nat.add_sub_cancel]
    exact flat_at f hf l k (by simpa using h)
theorem flat_two {α : Type} {s : Nat} (f : α → List Value) (hf : ∀ x, (f x).length = s) : ∀ (l : List α) (k : Nat) (h : k + 1 < l.length), ((l.flatMap f).drop (k * s)).take (s + s) = f l[k] ++ f l[k + 1]
  | x :: [], k, h => by simp at h
  | x :: y :: l, 0, _ => by
    rw [Nat.zero_mul, List.drop_zero, List.flatMap_cons, List.flatMap_cons, ← List.append_assoc, List.take_append_of_le_length (by rw [List.length_append, hf, hf]; exact Nat.le_refl _), List.take_of_length_le (by rw [List.length_append, hf, hf]; exact Nat.le_refl _)]
    rfl
  | x :: y :: l, k + 1, h => by
    rw [List.flatMap_cons, Nat.succ_mul, List.drop_append, List.drop_of_length_le (by rw [hf]; omega), List.nil_append, hf, Nat.add_sub_cancel]
    exact flat_two f hf (y :: l) k (by simpa using h)
theorem elem_range {α : Type} {w : World} {s : Nat} {f : α → List Value} (hf : ∀ x, (f x).length = s) {l : List α} {b o : Nat} (h : w.rangeAt b o (l.flatMap f)) (k : Nat) (hk : k < l.length) : w.rangeAt b (o + k * s) (f l[k]) := by
  have := range_sub h (k * s) s
  rwa [flat_at f hf l k hk] at this
theorem two_range {α : Type} {w : World} {s : Nat} {f : α → List Value} (hf : ∀ x, (f x).length = s) {l : List α} {b o : Nat} (h : w.rangeAt b o (l.flatMap f)) (k : Nat) (hk : k + 1 < l.length) : w.rangeAt b (o + k * s) (f l[k] ++ f l[k + 1]) := by
  have := range_sub h (k * s) (s + s)
  rwa [flat_two f hf l k hk] at this
theorem run_index {P : Program} {T e : TypeId} {s : Nat} (hT : P.underlying T = some (.slice e)) (hi : (P.info? e).map (·.size) = some s) {K : IntKind} (b o n c k : Nat) (hk : k < n) (w : World) :
    (Instr.indexAt T (.slice (some ⟨b, o, none⟩) n c) (.int K (k : Int))).run P w = .ok (.pointer (some ⟨b, o + k * s, none⟩)) w := by
  have h1 : (0 : Int) ≤ (k : Int) ∧ (k : Int) < (n : Int) := by omega
  cases hq : P.info? e with
  | none => rw [hq] at hi; cases hi
  | some i =>
    have hs : i.size = s := by simpa [hq] using hi
    unfold Instr.indexAt
    simp [asIntOf, Sem.run_bind, Sem.run_pure, run_underlying hT, sizeOf, typeInfo, hq, hs, h1, hk, add_lit]
theorem paid_index {E : PE} {W0 : World} {X : (Nat → Nat × Nat) → Prop} {T e : TypeId} {s : Nat} (hT : E.P.underlying T = some (.slice e)) (hi : (E.P.info? e).map (·.size) = some s) {K : IntKind} {b o n c k i off : Nat} (hk : k < n) (hρ : ∀ ρ, X ρ → (ρ i).1 = b ∧ (ρ i).2 + off = o + k * s) :
    (Owed.op (fun ρ => do pure (.value (← Instr.indexAt T (.slice (some ⟨b, o, none⟩) n c) (.int K (k : Int))))) (.p i off)).paid2 E W0 X := by
  intro ρ hX w1 hb
  obtain ⟨h1, h2⟩ := hρ ρ hX
  show Sem.run _ _ w1 = _
  rw [Sem.run_bind, run_index hT hi b o n c k hk w1, Result.andThen_ok, Sem.run_pure]
  simp only [SV.den, h1, h2]
theorem wrap_add (k : Nat) (h : k < 9223372036854775807) : IntKind.i64.wrap ((k : Int) + 1) = ((k + 1 : Nat) : Int) := by
  rw [IntWalk.i64_in _ (by omega)]
  omega
theorem wrap_sub (k : Nat) (h : k < 9223372036854775807) : IntKind.i64.wrap (((k + 1 : Nat) : Int) - 1) = (k : Int) := by
  rw [IntWalk.i64_in _ (by omega)]
  omega
end Go.Proofs.Mem
end
section
namespace Go.Proofs.YtcbnmoghjhljbaaGreat
open Go.RowKit Go.Proofs.Mem
set_option linter.unusedVariables false
def chB (n i : Nat) (c : Nat) : Bool := decide (97 ≤ c ∧ c ≤ 122) || (decide (48 ≤ c ∧ c ≤ 57) || decide (c = 45 ∧ i ≠ 0 ∧ i + 1 ≠ n))
def nmAll (s : ByteArray) : Prop := ∀ (i : Nat) (h : i < s.size), chB s.size i s[i].toNat = true
instance (s : ByteArray) : Decidable (nmAll s) := by unfold nmAll; infer_instance
def nmB (s : ByteArray) : Bool := decide (nmAll s) && (decide (1 ≤ s.size) && decide (s.size ≤ 32))
theorem ch_cases (n i c : Nat) : (97 ≤ c ∧ c ≤ 122 ∧ chB n i c = true) ∨ (48 ≤ c ∧ c ≤ 57 ∧ chB n i c = true) ∨ (c = 45 ∧ i ≠ 0 ∧ i + 1 ≠ n ∧ chB n i c = true) ∨ (c = 45 ∧ i = 0 ∧ chB n i c = false) ∨ (c = 45 ∧ i ≠ 0 ∧ i + 1 = n ∧ chB n i c = false) ∨ (c < 48 ∧ c ≠ 45 ∧ chB n i c = false) ∨ (58 ≤ c ∧ c < 97 ∧ chB n i c = false) ∨ (122 < c ∧ chB n i c = false) := by
  by_cases h1 : 97 ≤ c ∧ c ≤ 122
  · exact .inl ⟨h1.1, h1.2, by simp [chB, h1]⟩
  · by_cases h2 : 48 ≤ c ∧ c ≤ 57
    · exact .inr (.inl ⟨h2.1, h2.2, by simp [chB, h2]⟩)
    · by_cases h3 : c = 45
      · subst h3
        by_cases h4 : i = 0
        · exact .inr (.inr (.inr (.inl ⟨rfl, h4, by simp [chB, h4]⟩)))
        · by_cases h5 : i + 1 = n
          · exact .inr (.inr (.inr (.inr (.inl ⟨rfl, h4, h5, by simp [chB, h5]⟩))))
          · exact .inr (.inr (.inl ⟨rfl, h4, h5, by simp [chB, h4, h5]⟩))
      · have hf : chB n i c = false := by
          unfold chB
          simp only [Bool.or_eq_false_iff, decide_eq_false_iff_not]
          exact ⟨h1, h2, fun h => h3 h.1⟩
        rcases Nat.lt_or_ge c 48 with h4 | h4
        · exact .inr (.inr (.inr (.inr (.inr (.inl ⟨h4, h3, hf⟩)))))
        · rcases Nat.lt_or_ge c 97 with h5 | h5
          · exact .inr (.inr (.inr (.inr (.inr (.inr (.inl ⟨by omega, h5, hf⟩))))))
          · exact .inr (.inr (.inr (.inr (.inr (.inr (.inr ⟨by omega, hf⟩))))))
def sgB (c : Nat) : Bool := decide (97 ≤ c ∧ c ≤ 122) || (decide (48 ≤ c ∧ c ≤ 57) || decide (c = 45))
theorem sg_cases (c : Nat) : (97 ≤ c ∧ c ≤ 122 ∧ sgB c = true) ∨ (48 ≤ c ∧ c ≤ 57 ∧ sgB c = true) ∨ (c = 45 ∧ sgB c = true) ∨ (c < 48 ∧ c ≠ 45 ∧ sgB c = false) ∨ (58 ≤ c ∧ c < 97 ∧ sgB c = false) ∨ (122 < c ∧ sgB c = false) := by
  by_cases h1 : 97 ≤ c ∧ c ≤ 122
  · exact .inl ⟨h1.1, h1.2, by simp [sgB, h1]⟩
  · by_cases h2 : 48 ≤ c ∧ c ≤ 57
    · exact .inr (.inl ⟨h2.1, h2.2, by simp [sgB, h2]⟩)
    · by_cases h3 : c = 45
      · subst h3; exact .inr (.inr (.inl ⟨rfl, by decide⟩))
      · have hf : sgB c = false := by
          unfold sgB
          simp only [Bool.or_eq_false_iff, decide_eq_false_iff_not]
          exact ⟨h1, h2, h3⟩
        rcases Nat.lt_or_ge c 48 with h4 | h4
        · exact .inr (.inr (.inr (.inl ⟨h4, h3, hf⟩)))
        · rcases Nat.lt_or_ge c 97 with h5 | h5
          · exact .inr (.inr (.inr (.inr (.inl ⟨by omega, h5, hf⟩))))
          · exact .inr (.inr (.inr (.inr (.inr ⟨by omega, hf⟩))))
theorem ch_sg {n i c : Nat} (h : c = 45 → i ≠ 0 ∧ i + 1 ≠ n) : chB n i c = sgB c := by
  unfold chB sgB
  by_cases h3 : c = 45
  · have := h h3; simp [h3, this]
  · simp [h3]
theorem nm_yes {s : ByteArray} (h1 : 1 ≤ s.size) (h2 : s.size ≤ 32) (ha : ∀ (i : Nat) (h : i < s.size), chB s.size i s[i].toNat = true) : nmB s = true := by
  have : nmAll s := ha
  simp [nmB, this, h1, h2]
theorem nm_no {s : ByteArray} {i : Nat} (h : i < s.size) (hc : chB s.size i s[i].toNat = false) : nmB s = false := by
  unfold nmB
  rw [Bool.and_eq_false_iff]
  left
  rw [decide_eq_false_iff_not]
  intro ha
  have := ha i h
  rw [hc] at this
  cases this
theorem nm_size {s : ByteArray} (h : s.size = 0 ∨ 32 < s.size) : nmB s = false := by
  unfold nmB
  rw [Bool.and_eq_false_iff]
  right
  rcases h with h | h
  · simp [h]
  · simp; omega
end Go.Proofs.YtcbnmoghjhljbaaGreat
end
section
namespace Go.Proofs.YtcbnmoghjhljbaaGreat
open Go.RowKit Go.Proofs.Mem
set_option linter.unusedVariables false
set_option linter.unusedSimpArgs false
set_option maxHeartbeats 1000000 in
theorem sign_any (c : Nat) (w : World) : Calls Tryz.prog 58 #[.int .u8 c] w fun e w' => e = .returned (.bool (sgB c)) ∧ w = w' := by
  rcases sg_cases c with ⟨h1, h2, h3⟩ | ⟨h1, h2, h3⟩ | ⟨h1, h3⟩ | ⟨h1, h2, h3⟩ | ⟨h1, h2, h3⟩ | ⟨h1, h3⟩
  all_goals rw [h3]; clear h3
  · have g1 : (97 : Int) ≤ (c : Int) := by omega
    have g2 : (c : Int) ≤ 122 := by omega
    clear h1 h2
    go_enter Tryz.func58, Tryz.ntmps58
    go_wp2_with fail
    go_ret
    exact ⟨rfl, rfl⟩
  · have g1 : (48 : Int) ≤ (c : Int) := by omega
    have g2 : (c : Int) ≤ 57 := by omega
    clear h1 h2
    go_enter Tryz.func58, Tryz.ntmps58
    go_wp2_with fail
    go_ret
    exact ⟨rfl, rfl⟩
  · subst h1
    go_enter Tryz.func58, Tryz.ntmps58
    go_wp2_with fail
    go_ret
    exact ⟨rfl, rfl⟩
  · have g1 : (c : Int) < 48 := by omega
    have g2 : ((c : Int) == 45) = false := by rw [beq_eq_false_iff_ne]; omega
    clear h1 h2
    go_enter Tryz.func58, Tryz.ntmps58
    go_wp2_with fail
    go_ret
    exact ⟨rfl, rfl⟩
  · have g1 : (58 : Int) ≤ (c : Int) := by omega
    have g3 : (c : Int) < 97 := by omega
    have g4 : decide ((c : Int) ≤ 57) = false := by rw [decide_eq_false_iff_not]; omega
    have g2 : ((c : Int) == 45) = false := by rw [beq_eq_false_iff_ne]; omega
    clear h1 h2
    go_enter Tryz.func58, Tryz.ntmps58
    go_wp2_with fail
    go_ret
    exact ⟨rfl, rfl⟩
  · have g1 : (122 : Int) < (c : Int) := by omega
    have g4 : decide ((c : Int) ≤ 57) = false := by rw [decide_eq_false_iff_not]; omega
    have g5 : decide ((c : Int) ≤ 122) = false := by rw [decide_eq_false_iff_not]; omega
    have g2 : ((c : Int) == 45) = false := by rw [beq_eq_false_iff_ne]; omega
    clear h1
    go_enter Tryz.func58, Tryz.ntmps58
    go_wp2_with fail
    go_ret
    exact ⟨rfl, rfl⟩
set_option maxHeartbeats 2000000 in
theorem lname_empty (s : ByteArray) (w : World) (h0 : s.size = 0) : Calls Tryz.prog 36 #[.string s] w fun e w' => e = .returned (.bool (nmB s)) ∧ w = w' := by
  rw [nm_size (.inl h0)]
  have e1 : s.toList = [] := List.eq_nil_of_length_eq_zero (by rw [ByteArray.toList_eq, Array.length_toList, ByteArray.size_data]; exact h0)
  have e2 : s.toList.isEmpty = true := by rw [e1]; rfl
  clear h0
  go_enter Tryz.func36, Tryz.ntmps36
  go_wp2_with fail
  go_ret
  exact ⟨rfl, rfl⟩
set_option maxHeartbeats 2000000 in
theorem lname_long (s : ByteArray) (w : World) (hs : s.size ≤ maxLen) (h0 : 32 < s.size) : Calls Tryz.prog 36 #[.string s] w fun e w' => e = .returned (.bool (nmB s)) ∧ w = w' := by
  rw [nm_size (.inr h0)]
  have e1 : s.toList.isEmpty = false := by
    rw [ByteArray.toList_eq, List.isEmpty_eq_false_iff]
    intro h
    have h2 : s.size = 0 := by rw [← ByteArray.size_data, ← Array.length_toList, h]; rfl
    omega
  unfold maxLen at hs
  have g1 : (32 : Int) < (s.size : Int) := by omega
  clear h0
  go_enter Tryz.func36, Tryz.ntmps36
  go_wp2_with fail
  go_ret
  exact ⟨rfl, rfl⟩
set_option maxHeartbeats 2000000 in
theorem lname_mid (s : ByteArray) (w : World) (h0 : 0 < s.size) (h1 : s.size ≤ 32) : Calls Tryz.prog 36 #[.string s] w fun e w' => e = .returned (.bool (nmB s)) ∧ w = w' := by
  have e1 : s.toList.isEmpty = false := by
    rw [ByteArray.toList_eq, List.isEmpty_eq_false_iff]
    intro h
    have h2 : s.size = 0 := by rw [← ByteArray.size_data, ← Array.length_toList, h]; rfl
    omega
  have g1 : (s.size : Int) ≤ 32 := by omega
  have g2 : (1 : Int) ≤ (s.size : Int) := by omega
  have g3 : (s.size : Int) - 1 < (s.size : Int) := by omega
  by_cases c0 : s[0].toNat = 45
  · rw [nm_no (i := 0) h0 (by rw [c0]; simp [chB])]
    have d0 : ((s[0].toNat : Int) == 45) = true := by rw [beq_iff_eq]; omega
    clear c0 h1
    go_enter Tryz.func36, Tryz.ntmps36
    go_wp2_with fail
    go_ret
    exact ⟨rfl, rfl⟩
  · have d0 : ((s[0].toNat : Int) == 45) = false := by rw [beq_eq_false_iff_ne]; omega
    by_cases c1 : (s[s.size - 1]'(by omega)).toNat = 45
    · rw [nm_no (i := s.size - 1) (by omega) (by rw [c1]; simp [chB]; omega)]
      have d1 : (((s[s.size - 1]'(by omega)).toNat : Int) == 45) = true := by rw [beq_iff_eq]; omega
      clear c0 c1
      go_enter Tryz.func36, Tryz.ntmps36
      go_wp2_with fail
      go_ret
      exact ⟨rfl, rfl⟩
    · have d1 : (((s[s.size - 1]'(by omega)).toNat : Int) == 45) = false := by rw [beq_eq_false_iff_ne]; omega
      have HC : ∀ (k : Nat) (h : k < s.size), Hid (chB s.size k s[k].toNat = sgB s[k].toNat) := fun k h => Lib.hid (ch_sg fun e => by
        constructor
        · rintro rfl; exact c0 e
        · intro e2
          obtain rfl : k = s.size - 1 := by omega
          exact c1 e)
      obtain ⟨q, hq⟩ : ∃ q, q = nmB s := ⟨_, rfl⟩
      rw [← hq]
      have HQ := Lib.hid hq
      clear hq c0 c1
      go_enter Tryz.func36, Tryz.ntmps36
      go_wp2_with fail
      go_loop [26] (fun i => ∃ k : Nat, k ≤ s.size ∧ i = .int .i64 k ∧ Hid (∀ (j : Nat) (h : j < s.size), j < k → chB s.size j s[j].toNat = true)) (fun i => s.size - (intOf i).toNat)
      case atStart => exact ⟨0, Nat.zero_le _, rfl, Lib.hid (fun j h hj => absurd hj (by omega))⟩
      case round =>
        obtain ⟨k, hk, rfl, hall⟩ := hrel
        by_cases hlt : k < s.size
        · have hch := HC k hlt
          have CS := Lib.hid (fun w => sign_any s[k].toNat w)
          by_cases hs : sgB s[k].toNat = true
          · have hN : Hid (∀ (j : Nat) (h : j < s.size), j < k + 1 → chB s.size j s[j].toNat = true) := Lib.hid (fun j h hj => by
              by_cases hjk : j = k
              · subst hjk; rw [hch.out]; exact hs
              · exact hall.out j h (by omega))
            rw [hs] at CS
            clear hall hch hs HC d0 d1
            go_wp2_with fail
            refine (CS.out _).mono ?_
            rintro e w' ⟨rfl, rfl⟩
            go_wp2_with fail
            exact ⟨⟨k + 1, by omega, by go_num, hN⟩, by simp [intOf]; omega⟩
          · have hs : sgB s[k].toNat = false := by simpa using hs
            have hF : Hid (q = false) := Lib.hid (by rw [HQ.out]; exact nm_no hlt (by rw [hch.out]; exact hs))
            rw [hs] at CS
            clear hall hch hs HC d0 d1
            go_wp2_with fail
            refine (CS.out _).mono ?_
            rintro e w' ⟨rfl, rfl⟩
            go_wp2_with fail
            go_ret
            exact ⟨by rw [hF.out]; rfl, rfl⟩
        · have hT : Hid (q = true) := Lib.hid (by rw [HQ.out]; exact nm_yes (by omega) h1 (fun j h => hall.out j h (by omega)))
          clear hall HC d0 d1
          go_wp2_with fail
          go_ret
          exact ⟨by rw [hT.out]; rfl, rfl⟩
theorem lname_any (s : ByteArray) (w : World) (hs : s.size ≤ maxLen) : Calls Tryz.prog 36 #[.string s] w fun e w' => e = .returned (.bool (nmB s)) ∧ w = w' := by
  by_cases h0 : s.size = 0
  · exact lname_empty s w h0
  · by_cases h1 : 32 < s.size
    · exact lname_long s w hs h1
    · exact lname_mid s w (by omega) (by omega)
end Go.Proofs.YtcbnmoghjhljbaaGreat
end
section
namespace Go.Proofs.YtcbnmoghjhljbaaGreat
open Go.RowKit Go.Proofs.Mem
set_option linter.unusedVariables false
set_option linter.unusedSimpArgs false
set_option maxHeartbeats 2000000 in
set_option maxRecDepth 100000 in
theorem name_any (s : ByteArray) (w : World) (hs : wfs s) :
    Calls Tryz.prog 15 #[.string s] w fun e w' => e = .returned (.bool (nmB s)) ∧ w = w' := by
  have hl : s.size ≤ 9223372036854775807 := by
    have := Nat.le_trans hs reach_max
    unfold maxLen at this
    omega
  obtain ⟨q, hq⟩ : ∃ q, q = nmB s := ⟨_, rfl⟩
  rw [← hq]
  have hQ := Lib.hid hq
  clear hq hs
  go_enter Tryz.func15, Tryz.ntmps15
  go_wp2_with fail
  go_loop [3, 4, 5] (fun i c b => ∃ k : Nat, k ≤ s.size ∧ i = .int .i64 k ∧ Hid (∀ (j : Nat) (h : j < s.size), j < k → chB s.size j s[j].toNat = true)) (fun i c b => s.size - (intOf i).toNat)
  case atStart => exact ⟨0, Nat.zero_le _, rfl, Lib.hid (fun j h hj => absurd hj (by omega))⟩
  case round =>
    obtain ⟨k, hk, rfl, hall⟩ := hrel
    by_cases hlt : k < s.size
    · have hN : chB s.size k s[k].toNat = true → Hid (∀ (j : Nat) (h : j < s.size), j < k + 1 → chB s.size j s[j].toNat = true) := fun e => Lib.hid (fun j h hj => by
        by_cases hjk : j = k
        · subst hjk; exact e
        · exact hall.out j h (by omega))
      have hF : chB s.size k s[k].toNat = false → Hid (q = false) := fun e => Lib.hid (by
        rw [hQ.out]
        unfold nmB
        rw [Bool.and_eq_false_iff]
        left
        rw [decide_eq_false_iff_not]
        intro h
        have := h k hlt
        rw [e] at this
        cases this)
      have hcs := ch_cases s.size k s[k].toNat
      obtain ⟨c, hc⟩ : ∃ c : Nat, c = s[k].toNat := ⟨_, rfl⟩
      rw [← hc] at hcs hN hF
      rcases hcs with ⟨h1, h2, h3⟩ | ⟨h1, h2, h3⟩ | ⟨h1, h2, h4, h3⟩ | ⟨h1, h2, h3⟩ | ⟨h1, h2, h4, h3⟩ | ⟨h1, h2, h3⟩ | ⟨h1, h2, h3⟩ | ⟨h1, h3⟩
      · replace hN := hN h3
        clear hF h3 hall
        have g1 : (97 : Int) ≤ (s[k].toNat : Int) := by omega
        have g2 : (s[k].toNat : Int) ≤ 122 := by omega
        clear hc
        go_wp2_with fail
        exact ⟨⟨k + 1, by omega, by go_num, hN⟩, by simp [intOf]; omega⟩
      · replace hN := hN h3
        clear hF h3 hall
        have g1 : (48 : Int) ≤ (s[k].toNat : Int) := by omega
        have g2 : (s[k].toNat : Int) ≤ 57 := by omega
        clear hc
        go_wp2_with fail
        exact ⟨⟨k + 1, by omega, by go_num, hN⟩, by simp [intOf]; omega⟩
      · replace hN := hN h3
        clear hF h3 hall
        have g1 : (s[k].toNat : Int) < 48 := by omega
        have g2 : ((s[k].toNat : Int) != 45) = false := by rw [bne_eq_false_iff_eq]; omega
        have g3 : ((k : Int) == 0) = false := by rw [beq_eq_false_iff_ne]; omega
        have g4 : ((k : Int) == (s.size : Int) - 1) = false := by rw [beq_eq_false_iff_ne]; omega
        clear hc
        go_wp2_with fail
        exact ⟨⟨k + 1, by omega, by go_num, hN⟩, by simp [intOf]; omega⟩
      · replace hF := hF h3
        clear hN h3 hall
        have g1 : (s[k].toNat : Int) < 48 := by omega
        have g2 : ((s[k].toNat : Int) != 45) = false := by rw [bne_eq_false_iff_eq]; omega
        subst h2
        have g3 : ((0 : Int) == 0) = true := rfl
        clear hc
        go_wp2_with fail
        go_ret
        exact ⟨by rw [hF.out]; rfl, rfl⟩
      · replace hF := hF h3
        clear hN h3 hall
        have g1 : (s[k].toNat : Int) < 48 := by omega
        have g2 : ((s[k].toNat : Int) != 45) = false := by rw [bne_eq_false_iff_eq]; omega
        have g3 : ((k : Int) == 0) = false := by rw [beq_eq_false_iff_ne]; omega
        have g4 : (s.size : Int) - 1 ≤ (k : Int) := by omega
        clear hc h4
        go_wp2_with fail
        go_ret
        exact ⟨by rw [hF.out]; rfl, rfl⟩
      · replace hF := hF h3
        clear hN h3 hall
        have g1 : (s[k].toNat : Int) < 48 := by omega
        have g2 : ((s[k].toNat : Int) != 45) = true := by rw [bne_iff_ne]; omega
        clear hc
        go_wp2_with fail
        go_ret
        exact ⟨by rw [hF.out]; rfl, rfl⟩
      · replace hF := hF h3
        clear hN h3 hall
        have g1 : (58 : Int) ≤ (s[k].toNat : Int) := by omega
        have g3 : (s[k].toNat : Int) < 97 := by omega
        have g4 : decide ((s[k].toNat : Int) ≤ 57) = false := by rw [decide_eq_false_iff_not]; omega
        have g2 : ((s[k].toNat : Int) != 45) = true := by rw [bne_iff_ne]; omega
        clear hc
        go_wp2_with fail
        go_ret
        exact ⟨by rw [hF.out]; rfl, rfl⟩
      · replace hF := hF h3
        clear hN h3 hall
        have g1 : (122 : Int) < (s[k].toNat : Int) := by omega
        have g4 : decide ((s[k].toNat : Int) ≤ 57) = false := by rw [decide_eq_false_iff_not]; omega
        have g5 : decide ((s[k].toNat : Int) ≤ 122) = false := by rw [decide_eq_false_iff_not]; omega
        have g2 : ((s[k].toNat : Int) != 45) = true := by rw [bne_iff_ne]; omega
        clear hc
        go_wp2_with fail
        go_ret
        exact ⟨by rw [hF.out]; rfl, rfl⟩
    · have ha : nmAll s := fun j h => hall.out j h (by omega)
      have hcase : (((1 : Int) ≤ (s.size : Int) ∧ (s.size : Int) ≤ 32) ∧ Hid (q = true)) ∨ ((s.size : Int) < 1 ∧ Hid (q = false)) ∨ (((1 : Int) ≤ (s.size : Int) ∧ 32 < (s.size : Int)) ∧ Hid (q = false)) := by
        by_cases e1 : 1 ≤ s.size
        · by_cases e2 : s.size ≤ 32
          · exact .inl ⟨⟨by omega, by omega⟩, Lib.hid (by rw [hQ.out]; simp [nmB, ha, e1, e2])⟩
          · exact .inr (.inr ⟨⟨by omega, by omega⟩, Lib.hid (by rw [hQ.out]; simp [nmB, e2])⟩)
        · exact .inr (.inl ⟨by omega, Lib.hid (by rw [hQ.out]; simp [nmB, e1])⟩)
      clear hall ha hQ
      rcases hcase with ⟨⟨g1, g2⟩, hF⟩ | ⟨g1, hF⟩ | ⟨⟨g1, g2⟩, hF⟩
      all_goals
        go_wp2_with fail
        go_ret
        exact ⟨by rw [hF.out]; first | rfl | (show Ending.returned (.bool (decide ((s.size : Int) ≤ 32))) = _; first | rw [decide_eq_true (by omega)] | rw [decide_eq_false (by omega)]), rfl⟩
end Go.Proofs.YtcbnmoghjhljbaaGreat
end
section
namespace Go.Proofs.YtcbnmoghjhljbaaGreat
open Go.RowKit Go.Proofs.Mem
set_option linter.unusedVariables false
set_option linter.unusedSimpArgs false
def lessB (a b : ByteArray) : Bool := Op.bytesLess a.toList b.toList
def kvB (k v : ByteArray) : Bool := nmB k && (decide (v = ByteArray.empty) || nmB v)
def rtAll (l : List Lab) : Prop := ∀ (i : Nat) (h : i < l.length), kvB l[i].key l[i].value = true ∧ ∀ (j : Nat) (hj : j < i), lessB (l[j]'(by omega)).key l[i].key = true
instance (l : List Lab) : Decidable (rtAll l) := by unfold rtAll; infer_instance
def rtB (l : List Lab) : Bool := decide (rtAll l) && decide (l.length ≤ 8)
theorem str_ne' {s : ByteArray} (h : s ≠ ByteArray.empty) : (s.toList == ([] : List UInt8)) = false := by
  cases e : s.toList == ([] : List UInt8)
  · rfl
  · exfalso
    apply h
    have e' : s.toList = [] := by simpa using e
    rw [ByteArray.toList_eq] at e'
    apply ByteArray.ext
    apply Array.toList_inj.1
    rw [e']
    rfl
end Go.Proofs.YtcbnmoghjhljbaaGreat
end
section
namespace Go.Proofs.YtcbnmoghjhljbaaGreat
open Go.RowKit Go.Proofs.Mem
set_option linter.unusedVariables false
set_option linter.unusedSimpArgs false
def rqB (x : Req) : Bool := kvB x.key x.value && (decide (x.op = 0 ∨ x.op = 1) || (decide (x.op = 2 ∨ x.op = 3) && decide (x.value = ByteArray.empty)))
def aksB (l : List Req) : Bool := l.all rqB && decide (l.length ≤ 8)
end Go.Proofs.YtcbnmoghjhljbaaGreat
end
section
namespace Go.Proofs.YtcbnmoghjhljbaaGreat
open Go.RowKit Go.Proofs.Mem
set_option linter.unusedVariables false
set_option linter.unusedSimpArgs false
def whB (m : Int) : Bool := decide (0 ≤ m ∧ m ≤ 9007199254740992)
def szB (a b : Int) : Bool := whB a && (whB b && decide (a ≠ 0))
def wantsB (a b : Int) (l : List Lab) (s : List Req) (t : List Lab) (warm : Int) : Bool := szB a b && (rtB l && (aksB s && (rtB t && decide (0 ≤ warm ∧ warm ≤ 1800))))
end Go.Proofs.YtcbnmoghjhljbaaGreat
end
section
namespace Go.Proofs.YtcbnmoghjhljbaaGreat
open Go.RowKit Go.Proofs.Mem
set_option linter.unusedVariables false
set_option linter.unusedSimpArgs false
def strE (s : ByteArray) : Bool := s.toList == (⟨#[]⟩ : ByteArray).toList
def addI (a b : Int) : Int := IntKind.i64.wrap (a + b)
def emW (r c m : Int) (n1 n2 n3 : Nat) (wm : Int) : Bool := (((r == 0) && ((c == 0) && (m == 0))) && (addI (addI n1 n2) n3 == 0)) && (wm == 0)
def emP (ow nd : ByteArray) (ph si c m : Int) (n1 n2 n3 : Nat) (wm : Int) : Bool := (((((strE ow && strE nd) && (ph == 0)) && (si == 0)) && ((c == 0) && (m == 0))) && (addI (addI n1 n2) n3 == 0)) && (wm == 0)
def emN (gr : ByteArray) (c m : Int) (n1 n2 : Nat) (si : Int) (cl : Bool) : Bool := (((strE gr && ((c == 0) && (m == 0))) && (addI n1 n2 == 0)) && (si == 0)) && (!cl)
def emG (mi ma ta c m : Int) (n1 n2 : Nat) (pr : Int) : Bool := (((((mi == 0) && (ma == 0)) && (ta == 0)) && ((c == 0) && (m == 0))) && (addI n1 n2 == 0)) && (pr == 0)
def emH (ta : ByteArray) (mi ma : Int) (n1 n2 : Nat) (to uw up : Int) (nu : Nat) (dw dp : Int) (nd : Nat) : Bool :=
  (((((((((strE ta && (mi == 0)) && (ma == 0)) && (addI n1 n2 == 0)) && (to == 0)) && (uw == 0)) && (up == 0)) && ((nu : Int) == 0)) && (dw == 0)) && (dp == 0)) && ((nd : Int) == 0)
def emAll (k : Int) (W P N G H : Bool) : Bool := ((((W || (k == 0)) && (P || (k == 1))) && (N || (k == 2))) && (G || (k == 3))) && (H || (k == 4))
def emptyB (o : Ob) : Bool := emAll o.kind (emW o.w.replicas o.w.cpu o.w.mem o.w.labels.l.length o.w.select.l.length o.w.tolerate.l.length o.w.warm)
  (emP o.p.owner o.p.node o.p.phase o.p.since o.p.cpu o.p.mem o.p.labels.l.length o.p.select.l.length o.p.tolerate.l.length o.p.warm)
  (emN o.n.group o.n.cpu o.n.mem o.n.labels.l.length o.n.taints.l.length o.n.since o.n.closed)
  (emG o.g.min o.g.max o.g.target o.g.cpu o.g.mem o.g.labels.l.length o.g.taints.l.length o.g.priority)
  (emH o.h.target o.h.min o.h.max o.h.metrics.l.length o.h.past.l.length o.h.tolerance o.h.up.window o.h.up.pick o.h.up.policies.l.length o.h.down.window o.h.down.pick o.h.down.policies.l.length)
end Go.Proofs.YtcbnmoghjhljbaaGreat
end
section
namespace Go.Proofs.YtcbnmoghjhljbaaGreat
open Go.RowKit Go.Proofs.Mem
set_option linter.unusedVariables false
set_option linter.unusedSimpArgs false
def callTab : List (Nat × SV) → Nat → Option SV
  | [], _ => none
  | (k, v) :: r, s => match Nat.beq k s with
    | true => some v
    | false => callTab r s
def litIn : List Nat → Nat → Bool
  | [], _ => false
  | k :: r, s => match Nat.beq k s with
    | true => true
    | false => litIn r s
theorem aggOk {B : List (List Value)} {call : Nat → Option SV} {n : Nat} {gl : Nat → Bool} : AggOk ⟨Tryz.prog, B, aggR, call, n, gl⟩ := aggR_ok
theorem px_plain {f : FuncId} {fn : Func} {args : List Value} {w : World} {R : Ending → World → Prop} (call : Nat → Option SV) (lit : Nat → Bool) (n : Nat)
    (hf : Tryz.prog.funcs[f]? = some fn) (hb : fn.body.isSome = true) (hn : fn.ntmps = n) (ha : args.length ≤ n) (ow : List Owed) (su : List (Bool × Bool)) (vs : List SV)
    (hs : (px2Code ⟨⟨Tryz.prog, [], aggR, call, n, fun _ => false⟩, w, fun _ => True, 0, [], fun _ => none, lit, fun _ => none⟩ (fn.body.getD .skip) ⟨argF 0 (args.map SV.v), []⟩).sum Tryz.prog fn.results.toList (fun _ => []) = some ⟨⟨ow, [], su⟩, vs⟩)
    (hsu : ∀ p ∈ su, p.1 = p.2) (hO : ∀ x ∈ ow, x.paid2 ⟨Tryz.prog, [], aggR, call, n, fun _ => false⟩ w (fun _ => True)) (hR : ∀ ρ w', Below w.heap.size w w' → R (.returned (resVal ρ vs)) w') : Calls Tryz.prog f args.toArray w R := by
  have hb' : fn.body = some (fn.body.getD .skip) := by
    cases h : fn.body with
    | none => rw [h] at hb; cases hb
    | some c => rfl
  have h := px_calls (H := ⟨⟨Tryz.prog, [], aggR, call, n, fun _ => false⟩, w, fun _ => True, 0, [], fun _ => none, lit, fun _ => none⟩) (ρ0 := fun _ => (0, 0)) (R := R) aggOk (fun _ _ _ _ h => h) (by kernel_rfl) hf hb' hn (args := args.map SV.v) (B := []) (by simp; rw [hn]; exact ha) rfl
    (fun v hv => by obtain ⟨x, _, rfl⟩ := List.mem_map.1 hv; rfl) trivial (Nat.le_refl _) (fun i b h => by cases h) (fun _ => []) ⟨ow, [], su⟩ vs hs ⟨hO, (fun q hq => by cases hq), hsu⟩ (fun ρ w' _ hb => hR ρ w' hb)
  rw [List.map_map] at h
  have e : args.map (SV.den (fun _ => (0, 0)) ∘ SV.v) = args := by
    rw [show (SV.den (fun _ => (0, 0)) ∘ SV.v) = id from rfl, List.map_id]
  rw [e] at h
  exact h
theorem paid2_nil {E : PE} {W0 : World} {X : (Nat → Nat × Nat) → Prop} : ∀ x ∈ ([] : List Owed), x.paid2 E W0 X := fun x hx => by cases hx
theorem paid2_cons {E : PE} {W0 : World} {X : (Nat → Nat × Nat) → Prop} {y : Owed} {l : List Owed} (h : y.paid2 E W0 X) (hl : ∀ x ∈ l, x.paid2 E W0 X) : ∀ x ∈ y :: l, x.paid2 E W0 X := fun x hx => by
  rcases List.mem_cons.1 hx with rfl | hx
  · exact h
  · exact hl x hx
def mayW (em : Bool) (x : Wl) : Bool := ((em && decide (0 ≤ x.replicas)) && decide (x.replicas ≤ 1000000)) && wantsB x.cpu x.mem x.labels.l x.select.l x.tolerate.l x.warm
def mayP1 (em : Bool) (x : Pd) : Bool := (((((((em && nmB x.owner) && (strE x.node || nmB x.node)) && decide (0 ≤ x.phase)) && decide (x.phase ≤ 3)) && decide (0 ≤ x.since)) && decide (x.since ≤ 4611686018427387904)) && wantsB x.cpu x.mem x.labels.l x.select.l x.tolerate.l x.warm)
def mayP (em : Bool) (x : Pd) : Bool := mayP1 em x && ((x.phase == 3) || ((x.phase == 0) == strE x.node))
def mayN (em : Bool) (x : Nd) : Bool := (((((em && (strE x.group || nmB x.group)) && szB x.cpu x.mem) && rtB x.labels.l) && rtB x.taints.l) && decide (0 ≤ x.since)) && decide (x.since ≤ 4611686018427387904)
def mayG (em : Bool) (x : Gr) : Bool := ((((((((em && decide (0 ≤ x.min)) && decide (x.min ≤ x.target)) && decide (x.target ≤ x.max)) && decide (x.max ≤ 64)) && szB x.cpu x.mem) && rtB x.labels.l) && rtB x.taints.l) && decide (0 ≤ x.priority)) && decide (x.priority ≤ 1000)
def errN (name : ByteArray) (may : Bool) : Int := if nmB name then (if may then 0 else 2) else 6
end Go.Proofs.YtcbnmoghjhljbaaGreat
end
section
namespace Go.Proofs.YtcbnmoghjhljbaaGreat
open Go.RowKit Go.Proofs.Mem
set_option linter.unusedVariables false
set_option linter.unusedSimpArgs false
def vlB (s : ByteArray) : Bool := strE s || nmB s
set_option maxRecDepth 100000 in
theorem lvalue_any (s : ByteArray) (w : World) (hs : s.size ≤ maxLen) : Calls Tryz.prog 109 #[.string s] w fun e w' => e = .returned (.bool (vlB s)) ∧ Below w.heap.size w w' := by
  refine px_plain (args := [.string s]) (callTab [(7, .v (.bool (nmB s)))]) (litIn []) 9 Tryz.func109 (by kernel_rfl) (by kernel_rfl) (by simp)
    [.call 36 [.v (.string s)] (.v (.bool (nmB s)))] [] [.v (.bool (vlB s))] (by kernel_rfl) (fun p hp => by cases hp) ?_ (fun ρ w' hb => ⟨rfl, hb⟩)
  exact paid2_cons (fun ρ _ w1 hb => (lname_any s w1 hs).mono fun e w' ⟨h1, h2⟩ => ⟨h1, h2 ▸ Below.refl _ _⟩) paid2_nil
def lrAt (l : List Lab) (k : Nat) (h : k < l.length) : Bool := !((!(nmB l[k].key) || !(vlB l[k].value)) || (match k, h with | 0, _ => false | j + 1, h => !(lessB (l[j]'(by omega)).key l[j + 1].key)))
def lrOk (l : List Lab) : Bool := decide (∀ k (h : k < l.length), lrAt l k h = true)
def lrB (l : List Lab) : Bool := lrOk l && decide ((l.length : Int) ≤ 8)
def lrHyp (P : Program) (agg : BinOp → TypeId → Array Value → Array Value → Option Value) (w : World) (A : Option Addr) (n c : Nat) (ok : Bool) : Hyp :=
  ⟨⟨P, [], agg, fun _ => none, 41, litIn []⟩, w, fun _ => True, 0, [], fun id => match Nat.beq id 0 with
    | true => some fun _ => .br ok (.done .normal ⟨mkF [0, 2] [.v (.slice A n c), .v (.bool false)], []⟩) (.done .ret ⟨mkF [2] [.v (.bool false)], []⟩)
    | false => none, litIn [], fun _ => none⟩
theorem lab_sz : (Tryz.prog.info? 122).map (·.size) = some 2 := by kernel_rfl
theorem wfs_max {s : ByteArray} (h : wfs s) : s.size ≤ maxLen := Nat.le_trans h (by decide)
theorem lrOk_no {l : List Lab} (k : Nat) (h : k < l.length) (e : lrAt l k h = false) : lrOk l = false := decide_eq_false fun hh => by rw [hh k h] at e; cases e
theorem hp0 (j : Nat) : decide ((0 : Int) < ((j + 1 : Nat) : Int)) = true := decide_eq_true (by omega)
set_option maxRecDepth 100000 in
theorem lright_any (r : Row Lab) (w : World) (hr : LabsOk w r) : Calls Tryz.prog 87 #[r.v] w fun e w' => e = .returned (.bool (lrB r.l)) ∧ Below w.heap.size w w' := by
  obtain ⟨v, l⟩ := r
  obtain ⟨hS, hrch, hwf⟩ := id hr
  obtain ⟨A, c, e, _⟩ := id hS
  simp only at e hrch hwf
  subst e
  have hl63 : l.length ≤ 140737488355328 := by unfold reachBytes at hrch; omega
  have hL : LoopSpec (lrHyp Tryz.prog aggR w A l.length c (lrOk l)) (fun _ => [7, 0, 5, 6, 2]) (0, .loop (loopBody Tryz.f87 0), [some (.v (.int .i64 0)), some (.v (.slice A l.length c)), some (.v (.slice A l.length c)), some (.v (.int .i64 (l.length : Int))), some (.v (.bool false))], []) := by
    refine px_loop (H := lrHyp Tryz.prog aggR w A l.length c (lrOk l)) (K := .i64) aggR_ok (fun _ _ _ _ h => h) (by kernel_rfl) rfl (fun _ => [7, 0, 5, 6, 2]) (kx := [0, 2]) (kr := [2]) rfl l.length 0 (fun k => ∀ i (h : i < l.length), i < k → lrAt l i h = true) (fun i h hi => absurd hi (Nat.not_lt_zero _)) (fun _ => [.v (.slice A l.length c), .v (.slice A l.length c), .v (.int .i64 (l.length : Int)), .v (.bool false)]) (fun _ => [])
      (fun k => if h : k < l.length then (match k, h with
        | 0, h => some (⟨false, 122, Lab.cells l[0]⟩, match A with | some ad => (ad.block, ad.off) | none => (0, 0))
        | j + 1, h => some (⟨false, 122, Lab.cells (l[j]'(by omega)) ++ Lab.cells l[j + 1]⟩, match A with | some ad => (ad.block, ad.off + j * 2) | none => (0, 0))) else none)
      (fun k => if h : k < l.length then (match k, h with
        | 0, h => callTab [(10, .p 0 0), (14, .v (.bool (nmB l[0].key))), (19, .v (.bool (vlB l[0].value)))]
        | j + 1, h => callTab [(10, .p 0 2), (14, .v (.bool (nmB l[j + 1].key))), (19, .v (.bool (vlB l[j + 1].value))), (29, .p 0 0)]) else callTab [])
      (fun k => litIn (match k with | 0 => [25] | _ + 1 => []))
      (fun k s => match Nat.beq s 8 with | true => some (decide (k < l.length)) | false => none)
      (fun _ _ => rfl) (fun _ _ => rfl) ?_ (Nat.le_refl _) ?_
    · intro k x hx
      split at hx
      · rename_i hk
        obtain ⟨b, o, c', e, hb, hrg⟩ := row_range (r := ⟨.slice A l.length c, l⟩) (s := 2) (by decide) (fun _ => rfl) hr (Nat.lt_of_le_of_lt (Nat.zero_le _) hk)
        simp only [Value.slice.injEq] at e
        obtain ⟨rfl, -, -⟩ := e
        cases k with
        | zero =>
          simp only [Option.some.injEq] at hx
          subst hx
          exact ⟨rfl, hb, by have := elem_range (f := Lab.cells) (s := 2) (fun _ => rfl) hrg 0 hk; rw [Nat.zero_mul, Nat.add_zero] at this; exact this⟩
        | succ j =>
          simp only [Option.some.injEq] at hx
          subst hx
          exact ⟨rfl, hb, two_range (f := Lab.cells) (s := 2) (fun _ => rfl) hrg j hk⟩
      · cases hx
    · intro k hk hJ
      by_cases hkn : k < l.length
      · obtain ⟨b, o, c', e, hb, hrg⟩ := row_range (r := ⟨.slice A l.length c, l⟩) (s := 2) (by decide) (fun _ => rfl) hr (Nat.lt_of_le_of_lt (Nat.zero_le _) hkn)
        simp only [Value.slice.injEq] at e
        obtain ⟨rfl, -, -⟩ := e
        have hw := hwf _ (List.getElem_mem hkn)
        cases k with
        | zero =>
          rw [dif_pos hkn, dif_pos hkn, decide_eq_true hkn]
          refine ⟨.br ((!(nmB l[0].key) || !(vlB l[0].value)) || false) (.ret [some (.v (.bool false))] []) (.norm [some (.v (.int .i64 (IntKind.i64.wrap (((0 : Nat) : Int) + 1)))), some (.v (.slice (some ⟨b, o, none⟩) l.length c)), some (.v (.slice (some ⟨b, o, none⟩) l.length c)), some (.v (.int .i64 (l.length : Int))), some (.v (.bool false))] []),
            ⟨[.op (fun ρ => do pure (.value (← Instr.indexAt 38 (.slice (some ⟨b, o, none⟩) l.length c) (.int .i64 ((0 : Nat) : Int))))) (.p 0 0), .call 36 [.v (.string l[0].key)] (.v (.bool (nmB l[0].key))), .call 109 [.v (.string l[0].value)] (.v (.bool (vlB l[0].value)))], [], [(decide (((0 : Nat) : Int) < (l.length : Int)), true)]⟩, by kernel_rfl, ⟨?_, ?_, ?_⟩, ?_⟩
          · refine paid2_cons (paid_index (s := 2) (by kernel_rfl) lab_sz hkn fun ρ hX => ?_) (paid2_cons (fun ρ _ w1 hb => (lname_any _ w1 (wfs_max hw.1)).mono fun e w' ⟨h1, h2⟩ => ⟨h1, h2 ▸ Below.refl _ _⟩) (paid2_cons (fun ρ _ w1 hb => (lvalue_any _ w1 (wfs_max hw.2)).mono fun e w' h => h) paid2_nil))
            rw [hX.2 _ rfl]
            exact ⟨rfl, by simp⟩
          · exact fun q hq => by cases hq
          · exact fun p hp => by rw [List.mem_singleton.1 hp]; exact decide_eq_true (Int.ofNat_lt.2 hkn)
          · refine ⟨fun hb => ⟨[.v (.bool false)], rfl, rfl, fun Q hQ => ?_⟩, fun hb => ⟨hkn, ?_, ?_, rfl⟩⟩
            · refine hQ.2 (lrOk_no 0 hkn ?_)
              show (!((!(nmB l[0].key) || !(vlB l[0].value)) || false)) = false
              rw [hb]
              rfl
            · refine fun i h hi => ?_
              have : i = 0 := by omega
              subst this
              unfold lrAt
              simpa using hb
            · rw [wrap_add 0 (by omega)]
              rfl
        | succ j =>
          rw [dif_pos hkn, dif_pos hkn, decide_eq_true hkn]
          refine ⟨.br ((!(nmB l[j + 1].key) || !(vlB l[j + 1].value)) || (decide ((0 : Int) < ((j + 1 : Nat) : Int)) && !(lessB l[j].key l[j + 1].key))) (.ret [some (.v (.bool false))] []) (.norm [some (.v (.int .i64 (IntKind.i64.wrap (((j + 1 : Nat) : Int) + 1)))), some (.v (.slice (some ⟨b, o, none⟩) l.length c)), some (.v (.slice (some ⟨b, o, none⟩) l.length c)), some (.v (.int .i64 (l.length : Int))), some (.v (.bool false))] []),
            ⟨[.op (fun ρ => do pure (.value (← Instr.indexAt 38 (.slice (some ⟨b, o, none⟩) l.length c) (.int .i64 ((j + 1 : Nat) : Int))))) (.p 0 2), .call 36 [.v (.string l[j + 1].key)] (.v (.bool (nmB l[j + 1].key))), .call 109 [.v (.string l[j + 1].value)] (.v (.bool (vlB l[j + 1].value))),
              .op (fun ρ => do pure (.value (← Instr.indexAt 38 (.slice (some ⟨b, o, none⟩) l.length c) (.int .i64 (IntKind.i64.wrap (((j + 1 : Nat) : Int) - 1)))))) (.p 0 0)], [], [(decide (((j + 1 : Nat) : Int) < (l.length : Int)), true)]⟩, by kernel_rfl, ⟨?_, ?_, ?_⟩, ?_⟩
          · refine paid2_cons (paid_index (s := 2) (by kernel_rfl) lab_sz hkn fun ρ hX => ?_) (paid2_cons (fun ρ _ w1 hb => (lname_any _ w1 (wfs_max hw.1)).mono fun e w' ⟨h1, h2⟩ => ⟨h1, h2 ▸ Below.refl _ _⟩) (paid2_cons (fun ρ _ w1 hb => (lvalue_any _ w1 (wfs_max hw.2)).mono fun e w' h => h) (paid2_cons ?_ paid2_nil)))
            · rw [hX.2 _ rfl]
              exact ⟨rfl, by simp only [Nat.succ_mul]; omega⟩
            · rw [wrap_sub j (by omega)]
              refine paid_index (s := 2) (by kernel_rfl) lab_sz (Nat.lt_of_succ_lt hkn) fun ρ hX => ?_
              rw [hX.2 _ rfl]
              exact ⟨rfl, rfl⟩
          · exact fun q hq => by cases hq
          · exact fun p hp => by rw [List.mem_singleton.1 hp]; exact decide_eq_true (Int.ofNat_lt.2 hkn)
          · refine ⟨fun hb => ⟨[.v (.bool false)], rfl, rfl, fun Q hQ => ?_⟩, fun hb => ⟨hkn, ?_, ?_, rfl⟩⟩
            · refine hQ.2 (lrOk_no (j + 1) hkn ?_)
              unfold lrAt
              rw [hp0 j, Bool.true_and] at hb
              rw [hb]
              rfl
            · refine fun i h hi => ?_
              rcases Nat.lt_or_eq_of_le (Nat.le_of_lt_succ hi) with h1 | h1
              · exact hJ i h h1
              · subst h1
                unfold lrAt
                rw [hp0 j, Bool.true_and] at hb
                rw [hb]
                rfl
            · rw [wrap_add (j + 1) (by omega)]
              rfl
      · have : k = l.length := by omega
        subst this
        rw [dif_neg hkn, dif_neg hkn, decide_eq_false hkn]
        refine ⟨.exit [some (.v (.slice A l.length c)), some (.v (.bool false))] [], ⟨[], [], [(decide ((l.length : Int) < (l.length : Int)), false)]⟩, by kernel_rfl, ⟨fun x hx => (by cases hx), fun x hx => (by cases hx), fun p hp => by rw [List.mem_singleton.1 hp]; simp⟩, [.v (.slice A l.length c), .v (.bool false)], rfl, rfl, fun Q hQ => ?_⟩
        exact hQ.1 (decide_eq_true fun i h => hJ i h h)
  refine px_calls (f := 87) (fn := Tryz.f87) (args := [.v (.slice A l.length c)]) (B := []) (ρ0 := fun _ => (0, 0)) (H := lrHyp Tryz.prog aggR w A l.length c (lrOk l)) aggR_ok (fun _ _ _ _ h => h) (by kernel_rfl) Tryz.func87 rfl (by kernel_rfl) (by show (1 : Nat) ≤ 41; decide) rfl (by simp [SV.lt]) trivial (Nat.le_refl _) (fun i b hb => by simp at hb) (fun _ => [7, 0, 5, 6, 2])
    ⟨[], [(0, .loop (loopBody Tryz.f87 0), [some (.v (.int .i64 0)), some (.v (.slice A l.length c)), some (.v (.slice A l.length c)), some (.v (.int .i64 (l.length : Int))), some (.v (.bool false))], [])], []⟩ [.v (.bool (lrB l))] (by kernel_rfl) ⟨fun x hx => (by cases hx), fun q hq => by rw [List.mem_singleton.1 hq]; exact hL, fun p hp => (by cases hp)⟩ (fun ρ w' _ hb => ⟨rfl, hb⟩)
end Go.Proofs.YtcbnmoghjhljbaaGreat
end
section
namespace Go.Proofs.YtcbnmoghjhljbaaGreat
open Go.RowKit Go.Proofs.Mem
set_option linter.unusedVariables false
set_option linter.unusedSimpArgs false
def idxHyp (P : Program) (agg : BinOp → TypeId → Array Value → Array Value → Option Value) (w : World) (i : Int) (found : Bool) : Hyp :=
  ⟨⟨P, [], agg, fun _ => none, 19, litIn []⟩, w, fun _ => True, 0, [], fun id => match Nat.beq id 0 with
    | true => some fun _ => .br found (.done .ret ⟨mkF [4] [.v (.int .i64 i)], []⟩) (.done .normal ⟨[], []⟩)
    | false => none, litIn [], fun _ => none⟩
def idxI {α : Type} (l : List α) (p : α → Bool) : Value := pickV (l.any p) (.int .i64 (l.findIdx p : Int)) (.int .i64 (-1))
theorem any_at {α : Type} {l : List α} {p : α → Bool} (k : Nat) (h : k < l.length) (e : p l[k] = true) : l.any p = true := List.any_eq_true.2 ⟨_, List.getElem_mem h, e⟩
theorem any_none {α : Type} {l : List α} {p : α → Bool} (h : ∀ i (h : i < l.length), i < l.length → p l[i] = false) : l.any p = false := by
  cases e : l.any p with
  | false => rfl
  | true =>
    obtain ⟨x, hx, hp⟩ := List.any_eq_true.1 e
    obtain ⟨i, hi, rfl⟩ := List.getElem_of_mem hx
    rw [h i hi hi] at hp
    cases hp
theorem find_at {α : Type} {l : List α} {p : α → Bool} (k : Nat) (h : k < l.length) (e : p l[k] = true) (hl : ∀ i (h : i < l.length), i < k → p l[i] = false) : l.findIdx p = k := by
  rw [List.findIdx_eq h]
  exact ⟨e, fun j hj => hl j (by omega) hj⟩
theorem den_cap {ρ : Nat → Nat × Nat} (x : Value) (cap : List Value) : (([SV.v x] ++ cap.map SV.v).map (SV.den ρ)).toArray = #[x] ++ cap.toArray := by
  apply Array.toList_inj.1
  simp [List.map_map, Function.comp_def, SV.den]
theorem sz_req : (Tryz.prog.info? 125).map (·.size) = some 3 := by kernel_rfl
set_option maxRecDepth 100000 in
theorem index_req (r : Row Req) (cap : List Value) (p : Req → Bool) (w : World) {bytes : Nat} {q : Req → Prop} (hr : r.Ok w 3 bytes Req.cells q) (hl : r.l.length ≤ 140737488355328)
    (hcall : ∀ k (h : k < r.l.length) w', Below w.heap.size w w' → Calls Tryz.prog 124 (#[.agg (Req.cells r.l[k]).toArray] ++ cap.toArray) w' fun e w'' => e = .returned (.bool (p r.l[k])) ∧ Below w'.heap.size w' w'') :
    Calls Tryz.prog 132 #[r.v, .func (.func 124) #[] cap.toArray] w fun e w' => e = .returned (idxI r.l p) ∧ Below w.heap.size w w' := by
  obtain ⟨v, l⟩ := r
  obtain ⟨hS, hrch, hwf⟩ := id hr
  obtain ⟨A, c, e, _⟩ := id hS
  simp only at e hl hcall
  subst e
  have hL : LoopSpec (idxHyp Tryz.prog aggR w (l.findIdx p : Int) (l.any p)) (fun _ => [8, 0, 1, 6, 7]) (0, .loop (loopBody Tryz.f132 0), [some (.v (.int .i64 0)), some (.v (.slice A l.length c)), some (.v (.func (.func 124) #[] cap.toArray)), some (.v (.slice A l.length c)), some (.v (.int .i64 (l.length : Int)))], []) := by
    refine px_loop (H := idxHyp Tryz.prog aggR w (l.findIdx p : Int) (l.any p)) (K := .i64) aggR_ok (fun _ _ _ _ h => h) (by kernel_rfl) rfl (fun _ => [8, 0, 1, 6, 7]) (kx := []) (kr := [4]) rfl l.length 0 (fun k => ∀ i (h : i < l.length), i < k → p l[i] = false) (fun i h hi => absurd hi (Nat.not_lt_zero _)) (fun _ => [.v (.slice A l.length c), .v (.func (.func 124) #[] cap.toArray), .v (.slice A l.length c), .v (.int .i64 (l.length : Int))]) (fun _ => [])
      (fun k => if h : k < l.length then some (⟨false, 125, Req.cells l[k]⟩, match A with | some ad => (ad.block, ad.off + k * 3) | none => (0, 0)) else none)
      (fun k => if h : k < l.length then callTab [(14, .p 0 0), (16, .v (.bool (p l[k])))] else callTab [])
      (fun _ => litIn []) (fun k s => match Nat.beq s 9 with | true => some (decide (k < l.length)) | false => none)
      (fun _ _ => rfl) (fun _ _ => rfl) ?_ (Nat.le_refl _) ?_
    · intro k x hx
      split at hx
      · rename_i hk
        obtain ⟨b, o, c', e, hb, hrg⟩ := row_range (r := ⟨.slice A l.length c, l⟩) (s := 3) (by decide) (fun _ => rfl) hr (Nat.lt_of_le_of_lt (Nat.zero_le _) hk)
        simp only [Value.slice.injEq] at e
        obtain ⟨rfl, -, -⟩ := e
        simp only [Option.some.injEq] at hx
        subst hx
        exact ⟨rfl, hb, elem_range (f := Req.cells) (s := 3) (fun _ => rfl) hrg k hk⟩
      · cases hx
    · intro k hk hJ
      by_cases hkn : k < l.length
      · obtain ⟨b, o, c', e, hb, hrg⟩ := row_range (r := ⟨.slice A l.length c, l⟩) (s := 3) (by decide) (fun _ => rfl) hr (Nat.lt_of_le_of_lt (Nat.zero_le _) hkn)
        simp only [Value.slice.injEq] at e
        obtain ⟨rfl, -, -⟩ := e
        rw [dif_pos hkn, dif_pos hkn, decide_eq_true hkn]
        refine ⟨.br (p l[k]) (.ret [some (.v (.int .i64 (k : Int)))] []) (.norm [some (.v (.int .i64 (IntKind.i64.wrap ((k : Int) + 1)))), some (.v (.slice (some ⟨b, o, none⟩) l.length c)), some (.v (.func (.func 124) #[] cap.toArray)), some (.v (.slice (some ⟨b, o, none⟩) l.length c)), some (.v (.int .i64 (l.length : Int)))] []),
          ⟨[.op (fun ρ => do pure (.value (← Instr.indexAt 39 (.slice (some ⟨b, o, none⟩) l.length c) (.int .i64 (k : Int))))) (.p 0 0), .call 124 ([.v (.agg (Req.cells l[k]).toArray)] ++ cap.map .v) (.v (.bool (p l[k])))], [], [(decide ((k : Int) < (l.length : Int)), true)]⟩, by kernel_rfl, ⟨?_, ?_, ?_⟩, ?_⟩
        · refine paid2_cons (paid_index (s := 3) (by kernel_rfl) sz_req hkn fun ρ hX => ?_) (paid2_cons (fun ρ _ w1 hb => ?_) paid2_nil)
          · rw [hX.2 _ rfl]
            exact ⟨rfl, rfl⟩
          · rw [den_cap]
            exact hcall k hkn w1 hb
        · exact fun q hq => by cases hq
        · exact fun p hp => by rw [List.mem_singleton.1 hp]; exact decide_eq_true (Int.ofNat_lt.2 hkn)
        · refine ⟨fun hb => ⟨[.v (.int .i64 (k : Int))], rfl, rfl, fun Q hQ => ?_⟩, fun hb => ⟨hkn, ?_, ?_, rfl⟩⟩
          · have := hQ.1 (any_at k hkn hb)
            rw [find_at k hkn hb hJ] at this
            exact this
          · refine fun i h hi => ?_
            rcases Nat.lt_or_eq_of_le (Nat.le_of_lt_succ hi) with h1 | h1
            · exact hJ i h h1
            · subst h1; exact hb
          · rw [wrap_add k (by omega)]
            rfl
      · have : k = l.length := by omega
        subst this
        rw [dif_neg hkn, dif_neg hkn, decide_eq_false hkn]
        refine ⟨.exit [] [], ⟨[], [], [(decide ((l.length : Int) < (l.length : Int)), false)]⟩, by kernel_rfl, ⟨fun x hx => (by cases hx), fun x hx => (by cases hx), fun p hp => by rw [List.mem_singleton.1 hp]; simp⟩, [], rfl, rfl, fun Q hQ => ?_⟩
        exact hQ.2 (any_none hJ)
  refine px_calls (f := 132) (fn := Tryz.f132) (args := [.v (.slice A l.length c), .v (.func (.func 124) #[] cap.toArray)]) (B := []) (ρ0 := fun _ => (0, 0)) (H := idxHyp Tryz.prog aggR w (l.findIdx p : Int) (l.any p)) aggR_ok (fun _ _ _ _ h => h) (by kernel_rfl) Tryz.func132 rfl (by kernel_rfl) (by show (2 : Nat) ≤ 19; decide) rfl (by simp [SV.lt]) trivial (Nat.le_refl _) (fun i b hb => by simp at hb) (fun _ => [8, 0, 1, 6, 7])
    ⟨[], [(0, .loop (loopBody Tryz.f132 0), [some (.v (.int .i64 0)), some (.v (.slice A l.length c)), some (.v (.func (.func 124) #[] cap.toArray)), some (.v (.slice A l.length c)), some (.v (.int .i64 (l.length : Int)))], [])], []⟩ [.v (idxI l p)] (by kernel_rfl) ⟨fun x hx => (by cases hx), fun q hq => by rw [List.mem_singleton.1 hq]; exact hL, fun p hp => (by cases hp)⟩ (fun ρ w' _ hb => ⟨rfl, hb⟩)
set_option maxRecDepth 100000 in
theorem contains_req (r : Row Req) (cap : List Value) (p : Req → Bool) (w : World) {bytes : Nat} {q : Req → Prop} (hr : r.Ok w 3 bytes Req.cells q) (hl : r.l.length ≤ 140737488355328)
    (hcall : ∀ k (h : k < r.l.length) w', Below w.heap.size w w' → Calls Tryz.prog 124 (#[.agg (Req.cells r.l[k]).toArray] ++ cap.toArray) w' fun e w'' => e = .returned (.bool (p r.l[k])) ∧ Below w'.heap.size w' w'') :
    Calls Tryz.prog 123 #[r.v, .func (.func 124) #[] cap.toArray] w fun e w' => e = .returned (.bool (r.l.any p)) ∧ Below w.heap.size w w' := by
  have hi := fun (w1 : World) (hb : Below w.heap.size w w1) => index_req r cap p w1 (hr.below hb) hl fun k h w' hb' => hcall k h w' (hb.trans (hb'.mono hb.size))
  cases e : r.l.any p with
  | true =>
    refine px_plain (args := [r.v, .func (.func 124) #[] cap.toArray]) (callTab [(7, .v (.int .i64 (r.l.findIdx p : Int)))]) (litIn []) 9 Tryz.func123 (by kernel_rfl) (by kernel_rfl) (by simp)
      [.call 132 [.v r.v, .v (.func (.func 124) #[] cap.toArray)] (.v (.int .i64 (r.l.findIdx p : Int)))] [] [.v (.bool (decide (0 ≤ (r.l.findIdx p : Int))))] (by kernel_rfl) (fun p hp => by cases hp) ?_ (fun ρ w' hb => ⟨by rw [decide_eq_true (Int.natCast_nonneg _)]; rfl, hb⟩)
    exact paid2_cons (fun ρ _ w1 hb => (hi w1 hb).mono fun e' w' ⟨h1, h2⟩ => ⟨by rw [h1]; unfold idxI; rw [e]; rfl, h2⟩) paid2_nil
  | false =>
    refine px_plain (args := [r.v, .func (.func 124) #[] cap.toArray]) (callTab [(7, .v (.int .i64 (-1)))]) (litIn []) 9 Tryz.func123 (by kernel_rfl) (by kernel_rfl) (by simp)
      [.call 132 [.v r.v, .v (.func (.func 124) #[] cap.toArray)] (.v (.int .i64 (-1)))] [] [.v (.bool false)] (by kernel_rfl) (fun p hp => by cases hp) ?_ (fun ρ w' hb => ⟨rfl, hb⟩)
    exact paid2_cons (fun ρ _ w1 hb => (hi w1 hb).mono fun e' w' ⟨h1, h2⟩ => ⟨by rw [h1]; unfold idxI; rw [e]; rfl, h2⟩) paid2_nil
theorem sz_met : (Tryz.prog.info? 128).map (·.size) = some 3 := by kernel_rfl
set_option maxRecDepth 100000 in
theorem index_met (r : Row Met) (cap : List Value) (p : Met → Bool) (w : World) {bytes : Nat} {q : Met → Prop} (hr : r.Ok w 3 bytes Met.cells q) (hl : r.l.length ≤ 140737488355328)
    (hcall : ∀ k (h : k < r.l.length) w', Below w.heap.size w w' → Calls Tryz.prog 111 (#[.agg (Met.cells r.l[k]).toArray] ++ cap.toArray) w' fun e w'' => e = .returned (.bool (p r.l[k])) ∧ Below w'.heap.size w' w'') :
    Calls Tryz.prog 125 #[r.v, .func (.func 111) #[] cap.toArray] w fun e w' => e = .returned (idxI r.l p) ∧ Below w.heap.size w w' := by
  obtain ⟨v, l⟩ := r
  obtain ⟨hS, hrch, hwf⟩ := id hr
  obtain ⟨A, c, e, _⟩ := id hS
  simp only at e hl hcall
  subst e
  have hL : LoopSpec (idxHyp Tryz.prog aggR w (l.findIdx p : Int) (l.any p)) (fun _ => [8, 0, 1, 6, 7]) (0, .loop (loopBody Tryz.f125 0), [some (.v (.int .i64 0)), some (.v (.slice A l.length c)), some (.v (.func (.func 111) #[] cap.toArray)), some (.v (.slice A l.length c)), some (.v (.int .i64 (l.length : Int)))], []) := by
    refine px_loop (H := idxHyp Tryz.prog aggR w (l.findIdx p : Int) (l.any p)) (K := .i64) aggR_ok (fun _ _ _ _ h => h) (by kernel_rfl) rfl (fun _ => [8, 0, 1, 6, 7]) (kx := []) (kr := [4]) rfl l.length 0 (fun k => ∀ i (h : i < l.length), i < k → p l[i] = false) (fun i h hi => absurd hi (Nat.not_lt_zero _)) (fun _ => [.v (.slice A l.length c), .v (.func (.func 111) #[] cap.toArray), .v (.slice A l.length c), .v (.int .i64 (l.length : Int))]) (fun _ => [])
      (fun k => if h : k < l.length then some (⟨false, 128, Met.cells l[k]⟩, match A with | some ad => (ad.block, ad.off + k * 3) | none => (0, 0)) else none)
      (fun k => if h : k < l.length then callTab [(14, .p 0 0), (16, .v (.bool (p l[k])))] else callTab [])
      (fun _ => litIn []) (fun k s => match Nat.beq s 9 with | true => some (decide (k < l.length)) | false => none)
      (fun _ _ => rfl) (fun _ _ => rfl) ?_ (Nat.le_refl _) ?_
    · intro k x hx
      split at hx
      · rename_i hk
        obtain ⟨b, o, c', e, hb, hrg⟩ := row_range (r := ⟨.slice A l.length c, l⟩) (s := 3) (by decide) (fun _ => rfl) hr (Nat.lt_of_le_of_lt (Nat.zero_le _) hk)
        simp only [Value.slice.injEq] at e
        obtain ⟨rfl, -, -⟩ := e
        simp only [Option.some.injEq] at hx
        subst hx
        exact ⟨rfl, hb, elem_range (f := Met.cells) (s := 3) (fun _ => rfl) hrg k hk⟩
      · cases hx
    · intro k hk hJ
      by_cases hkn : k < l.length
      · obtain ⟨b, o, c', e, hb, hrg⟩ := row_range (r := ⟨.slice A l.length c, l⟩) (s := 3) (by decide) (fun _ => rfl) hr (Nat.lt_of_le_of_lt (Nat.zero_le _) hkn)
        simp only [Value.slice.injEq] at e
        obtain ⟨rfl, -, -⟩ := e
        rw [dif_pos hkn, dif_pos hkn, decide_eq_true hkn]
        refine ⟨.br (p l[k]) (.ret [some (.v (.int .i64 (k : Int)))] []) (.norm [some (.v (.int .i64 (IntKind.i64.wrap ((k : Int) + 1)))), some (.v (.slice (some ⟨b, o, none⟩) l.length c)), some (.v (.func (.func 111) #[] cap.toArray)), some (.v (.slice (some ⟨b, o, none⟩) l.length c)), some (.v (.int .i64 (l.length : Int)))] []),
          ⟨[.op (fun ρ => do pure (.value (← Instr.indexAt 48 (.slice (some ⟨b, o, none⟩) l.length c) (.int .i64 (k : Int))))) (.p 0 0), .call 111 ([.v (.agg (Met.cells l[k]).toArray)] ++ cap.map .v) (.v (.bool (p l[k])))], [], [(decide ((k : Int) < (l.length : Int)), true)]⟩, by kernel_rfl, ⟨?_, ?_, ?_⟩, ?_⟩
        · refine paid2_cons (paid_index (s := 3) (by kernel_rfl) sz_met hkn fun ρ hX => ?_) (paid2_cons (fun ρ _ w1 hb => ?_) paid2_nil)
          · rw [hX.2 _ rfl]
            exact ⟨rfl, rfl⟩
          · rw [den_cap]
            exact hcall k hkn w1 hb
        · exact fun q hq => by cases hq
        · exact fun p hp => by rw [List.mem_singleton.1 hp]; exact decide_eq_true (Int.ofNat_lt.2 hkn)
        · refine ⟨fun hb => ⟨[.v (.int .i64 (k : Int))], rfl, rfl, fun Q hQ => ?_⟩, fun hb => ⟨hkn, ?_, ?_, rfl⟩⟩
          · have := hQ.1 (any_at k hkn hb)
            rw [find_at k hkn hb hJ] at this
            exact this
          · refine fun i h hi => ?_
            rcases Nat.lt_or_eq_of_le (Nat.le_of_lt_succ hi) with h1 | h1
            · exact hJ i h h1
            · subst h1; exact hb
          · rw [wrap_add k (by omega)]
            rfl
      · have : k = l.length := by omega
        subst this
        rw [dif_neg hkn, dif_neg hkn, decide_eq_false hkn]
        refine ⟨.exit [] [], ⟨[], [], [(decide ((l.length : Int) < (l.length : Int)), false)]⟩, by kernel_rfl, ⟨fun x hx => (by cases hx), fun x hx => (by cases hx), fun p hp => by rw [List.mem_singleton.1 hp]; simp⟩, [], rfl, rfl, fun Q hQ => ?_⟩
        exact hQ.2 (any_none hJ)
  refine px_calls (f := 125) (fn := Tryz.f125) (args := [.v (.slice A l.length c), .v (.func (.func 111) #[] cap.toArray)]) (B := []) (ρ0 := fun _ => (0, 0)) (H := idxHyp Tryz.prog aggR w (l.findIdx p : Int) (l.any p)) aggR_ok (fun _ _ _ _ h => h) (by kernel_rfl) Tryz.func125 rfl (by kernel_rfl) (by show (2 : Nat) ≤ 19; decide) rfl (by simp [SV.lt]) trivial (Nat.le_refl _) (fun i b hb => by simp at hb) (fun _ => [8, 0, 1, 6, 7])
    ⟨[], [(0, .loop (loopBody Tryz.f125 0), [some (.v (.int .i64 0)), some (.v (.slice A l.length c)), some (.v (.func (.func 111) #[] cap.toArray)), some (.v (.slice A l.length c)), some (.v (.int .i64 (l.length : Int)))], [])], []⟩ [.v (idxI l p)] (by kernel_rfl) ⟨fun x hx => (by cases hx), fun q hq => by rw [List.mem_singleton.1 hq]; exact hL, fun p hp => (by cases hp)⟩ (fun ρ w' _ hb => ⟨rfl, hb⟩)
set_option maxRecDepth 100000 in
theorem contains_met (r : Row Met) (cap : List Value) (p : Met → Bool) (w : World) {bytes : Nat} {q : Met → Prop} (hr : r.Ok w 3 bytes Met.cells q) (hl : r.l.length ≤ 140737488355328)
    (hcall : ∀ k (h : k < r.l.length) w', Below w.heap.size w w' → Calls Tryz.prog 111 (#[.agg (Met.cells r.l[k]).toArray] ++ cap.toArray) w' fun e w'' => e = .returned (.bool (p r.l[k])) ∧ Below w'.heap.size w' w'') :
    Calls Tryz.prog 110 #[r.v, .func (.func 111) #[] cap.toArray] w fun e w' => e = .returned (.bool (r.l.any p)) ∧ Below w.heap.size w w' := by
  have hi := fun (w1 : World) (hb : Below w.heap.size w w1) => index_met r cap p w1 (hr.below hb) hl fun k h w' hb' => hcall k h w' (hb.trans (hb'.mono hb.size))
  cases e : r.l.any p with
  | true =>
    refine px_plain (args := [r.v, .func (.func 111) #[] cap.toArray]) (callTab [(7, .v (.int .i64 (r.l.findIdx p : Int)))]) (litIn []) 9 Tryz.func110 (by kernel_rfl) (by kernel_rfl) (by simp)
      [.call 125 [.v r.v, .v (.func (.func 111) #[] cap.toArray)] (.v (.int .i64 (r.l.findIdx p : Int)))] [] [.v (.bool (decide (0 ≤ (r.l.findIdx p : Int))))] (by kernel_rfl) (fun p hp => by cases hp) ?_ (fun ρ w' hb => ⟨by rw [decide_eq_true (Int.natCast_nonneg _)]; rfl, hb⟩)
    exact paid2_cons (fun ρ _ w1 hb => (hi w1 hb).mono fun e' w' ⟨h1, h2⟩ => ⟨by rw [h1]; unfold idxI; rw [e]; rfl, h2⟩) paid2_nil
  | false =>
    refine px_plain (args := [r.v, .func (.func 111) #[] cap.toArray]) (callTab [(7, .v (.int .i64 (-1)))]) (litIn []) 9 Tryz.func110 (by kernel_rfl) (by kernel_rfl) (by simp)
      [.call 125 [.v r.v, .v (.func (.func 111) #[] cap.toArray)] (.v (.int .i64 (-1)))] [] [.v (.bool false)] (by kernel_rfl) (fun p hp => by cases hp) ?_ (fun ρ w' hb => ⟨rfl, hb⟩)
    exact paid2_cons (fun ρ _ w1 hb => (hi w1 hb).mono fun e' w' ⟨h1, h2⟩ => ⟨by rw [h1]; unfold idxI; rw [e]; rfl, h2⟩) paid2_nil
theorem sz_pol : (Tryz.prog.info? 131).map (·.size) = some 3 := by kernel_rfl
set_option maxRecDepth 100000 in
theorem index_pol (r : Row Pol) (cap : List Value) (p : Pol → Bool) (w : World) {bytes : Nat} {q : Pol → Prop} (hr : r.Ok w 3 bytes Pol.cells q) (hl : r.l.length ≤ 140737488355328)
    (hcall : ∀ k (h : k < r.l.length) w', Below w.heap.size w w' → Calls Tryz.prog 127 (#[.agg (Pol.cells r.l[k]).toArray] ++ cap.toArray) w' fun e w'' => e = .returned (.bool (p r.l[k])) ∧ Below w'.heap.size w' w'') :
    Calls Tryz.prog 133 #[r.v, .func (.func 127) #[] cap.toArray] w fun e w' => e = .returned (idxI r.l p) ∧ Below w.heap.size w w' := by
  obtain ⟨v, l⟩ := r
  obtain ⟨hS, hrch, hwf⟩ := id hr
  obtain ⟨A, c, e, _⟩ := id hS
  simp only at e hl hcall
  subst e
  have hL : LoopSpec (idxHyp Tryz.prog aggR w (l.findIdx p : Int) (l.any p)) (fun _ => [8, 0, 1, 6, 7]) (0, .loop (loopBody Tryz.f133 0), [some (.v (.int .i64 0)), some (.v (.slice A l.length c)), some (.v (.func (.func 127) #[] cap.toArray)), some (.v (.slice A l.length c)), some (.v (.int .i64 (l.length : Int)))], []) := by
    refine px_loop (H := idxHyp Tryz.prog aggR w (l.findIdx p : Int) (l.any p)) (K := .i64) aggR_ok (fun _ _ _ _ h => h) (by kernel_rfl) rfl (fun _ => [8, 0, 1, 6, 7]) (kx := []) (kr := [4]) rfl l.length 0 (fun k => ∀ i (h : i < l.length), i < k → p l[i] = false) (fun i h hi => absurd hi (Nat.not_lt_zero _)) (fun _ => [.v (.slice A l.length c), .v (.func (.func 127) #[] cap.toArray), .v (.slice A l.length c), .v (.int .i64 (l.length : Int))]) (fun _ => [])
      (fun k => if h : k < l.length then some (⟨false, 131, Pol.cells l[k]⟩, match A with | some ad => (ad.block, ad.off + k * 3) | none => (0, 0)) else none)
      (fun k => if h : k < l.length then callTab [(14, .p 0 0), (16, .v (.bool (p l[k])))] else callTab [])
      (fun _ => litIn []) (fun k s => match Nat.beq s 9 with | true => some (decide (k < l.length)) | false => none)
      (fun _ _ => rfl) (fun _ _ => rfl) ?_ (Nat.le_refl _) ?_
    · intro k x hx
      split at hx
      · rename_i hk
        obtain ⟨b, o, c', e, hb, hrg⟩ := row_range (r := ⟨.slice A l.length c, l⟩) (s := 3) (by decide) (fun _ => rfl) hr (Nat.lt_of_le_of_lt (Nat.zero_le _) hk)
        simp only [Value.slice.injEq] at e
        obtain ⟨rfl, -, -⟩ := e
        simp only [Option.some.injEq] at hx
        subst hx
        exact ⟨rfl, hb, elem_range (f := Pol.cells) (s := 3) (fun _ => rfl) hrg k hk⟩
      · cases hx
    · intro k hk hJ
      by_cases hkn : k < l.length
      · obtain ⟨b, o, c', e, hb, hrg⟩ := row_range (r := ⟨.slice A l.length c, l⟩) (s := 3) (by decide) (fun _ => rfl) hr (Nat.lt_of_le_of_lt (Nat.zero_le _) hkn)
        simp only [Value.slice.injEq] at e
        obtain ⟨rfl, -, -⟩ := e
        rw [dif_pos hkn, dif_pos hkn, decide_eq_true hkn]
        refine ⟨.br (p l[k]) (.ret [some (.v (.int .i64 (k : Int)))] []) (.norm [some (.v (.int .i64 (IntKind.i64.wrap ((k : Int) + 1)))), some (.v (.slice (some ⟨b, o, none⟩) l.length c)), some (.v (.func (.func 127) #[] cap.toArray)), some (.v (.slice (some ⟨b, o, none⟩) l.length c)), some (.v (.int .i64 (l.length : Int)))] []),
          ⟨[.op (fun ρ => do pure (.value (← Instr.indexAt 49 (.slice (some ⟨b, o, none⟩) l.length c) (.int .i64 (k : Int))))) (.p 0 0), .call 127 ([.v (.agg (Pol.cells l[k]).toArray)] ++ cap.map .v) (.v (.bool (p l[k])))], [], [(decide ((k : Int) < (l.length : Int)), true)]⟩, by kernel_rfl, ⟨?_, ?_, ?_⟩, ?_⟩
        · refine paid2_cons (paid_index (s := 3) (by kernel_rfl) sz_pol hkn fun ρ hX => ?_) (paid2_cons (fun ρ _ w1 hb => ?_) paid2_nil)
          · rw [hX.2 _ rfl]
            exact ⟨rfl, rfl⟩
          · rw [den_cap]
            exact hcall k hkn w1 hb
        · exact fun q hq => by cases hq
        · exact fun p hp => by rw [List.mem_singleton.1 hp]; exact decide_eq_true (Int.ofNat_lt.2 hkn)
        · refine ⟨fun hb => ⟨[.v (.int .i64 (k : Int))], rfl, rfl, fun Q hQ => ?_⟩, fun hb => ⟨hkn, ?_, ?_, rfl⟩⟩
          · have := hQ.1 (any_at k hkn hb)
            rw [find_at k hkn hb hJ] at this
            exact this
          · refine fun i h hi => ?_
            rcases Nat.lt_or_eq_of_le (Nat.le_of_lt_succ hi) with h1 | h1
            · exact hJ i h h1
            · subst h1; exact hb
          · rw [wrap_add k (by omega)]
            rfl
      · have : k = l.length := by omega
        subst this
        rw [dif_neg hkn, dif_neg hkn, decide_eq_false hkn]
        refine ⟨.exit [] [], ⟨[], [], [(decide ((l.length : Int) < (l.length : Int)), false)]⟩, by kernel_rfl, ⟨fun x hx => (by cases hx), fun x hx => (by cases hx), fun p hp => by rw [List.mem_singleton.1 hp]; simp⟩, [], rfl, rfl, fun Q hQ => ?_⟩
        exact hQ.2 (any_none hJ)
  refine px_calls (f := 133) (fn := Tryz.f133) (args := [.v (.slice A l.length c), .v (.func (.func 127) #[] cap.toArray)]) (B := []) (ρ0 := fun _ => (0, 0)) (H := idxHyp Tryz.prog aggR w (l.findIdx p : Int) (l.any p)) aggR_ok (fun _ _ _ _ h => h) (by kernel_rfl) Tryz.func133 rfl (by kernel_rfl) (by show (2 : Nat) ≤ 19; decide) rfl (by simp [SV.lt]) trivial (Nat.le_refl _) (fun i b hb => by simp at hb) (fun _ => [8, 0, 1, 6, 7])
    ⟨[], [(0, .loop (loopBody Tryz.f133 0), [some (.v (.int .i64 0)), some (.v (.slice A l.length c)), some (.v (.func (.func 127) #[] cap.toArray)), some (.v (.slice A l.length c)), some (.v (.int .i64 (l.length : Int)))], [])], []⟩ [.v (idxI l p)] (by kernel_rfl) ⟨fun x hx => (by cases hx), fun q hq => by rw [List.mem_singleton.1 hq]; exact hL, fun p hp => (by cases hp)⟩ (fun ρ w' _ hb => ⟨rfl, hb⟩)
set_option maxRecDepth 100000 in
theorem contains_pol (r : Row Pol) (cap : List Value) (p : Pol → Bool) (w : World) {bytes : Nat} {q : Pol → Prop} (hr : r.Ok w 3 bytes Pol.cells q) (hl : r.l.length ≤ 140737488355328)
    (hcall : ∀ k (h : k < r.l.length) w', Below w.heap.size w w' → Calls Tryz.prog 127 (#[.agg (Pol.cells r.l[k]).toArray] ++ cap.toArray) w' fun e w'' => e = .returned (.bool (p r.l[k])) ∧ Below w'.heap.size w' w'') :
    Calls Tryz.prog 126 #[r.v, .func (.func 127) #[] cap.toArray] w fun e w' => e = .returned (.bool (r.l.any p)) ∧ Below w.heap.size w w' := by
  have hi := fun (w1 : World) (hb : Below w.heap.size w w1) => index_pol r cap p w1 (hr.below hb) hl fun k h w' hb' => hcall k h w' (hb.trans (hb'.mono hb.size))
  cases e : r.l.any p with
  | true =>
    refine px_plain (args := [r.v, .func (.func 127) #[] cap.toArray]) (callTab [(7, .v (.int .i64 (r.l.findIdx p : Int)))]) (litIn []) 9 Tryz.func126 (by kernel_rfl) (by kernel_rfl) (by simp)
      [.call 133 [.v r.v, .v (.func (.func 127) #[] cap.toArray)] (.v (.int .i64 (r.l.findIdx p : Int)))] [] [.v (.bool (decide (0 ≤ (r.l.findIdx p : Int))))] (by kernel_rfl) (fun p hp => by cases hp) ?_ (fun ρ w' hb => ⟨by rw [decide_eq_true (Int.natCast_nonneg _)]; rfl, hb⟩)
    exact paid2_cons (fun ρ _ w1 hb => (hi w1 hb).mono fun e' w' ⟨h1, h2⟩ => ⟨by rw [h1]; unfold idxI; rw [e]; rfl, h2⟩) paid2_nil
  | false =>
    refine px_plain (args := [r.v, .func (.func 127) #[] cap.toArray]) (callTab [(7, .v (.int .i64 (-1)))]) (litIn []) 9 Tryz.func126 (by kernel_rfl) (by kernel_rfl) (by simp)
      [.call 133 [.v r.v, .v (.func (.func 127) #[] cap.toArray)] (.v (.int .i64 (-1)))] [] [.v (.bool false)] (by kernel_rfl) (fun p hp => by cases hp) ?_ (fun ρ w' hb => ⟨rfl, hb⟩)
    exact paid2_cons (fun ρ _ w1 hb => (hi w1 hb).mono fun e' w' ⟨h1, h2⟩ => ⟨by rw [h1]; unfold idxI; rw [e]; rfl, h2⟩) paid2_nil
end Go.Proofs.YtcbnmoghjhljbaaGreat
end
section
namespace Go.Proofs.YtcbnmoghjhljbaaGreat
open Go.RowKit Go.Proofs.Mem
set_option linter.unusedVariables false
set_option linter.unusedSimpArgs false
theorem row_len {α : Type} {r : Row α} {w : World} {s bytes : Nat} {f : α → List Value} {p : α → Prop} (h : r.Ok w s bytes f p) (hb : 8 ≤ bytes) : r.l.length ≤ 140737488355328 := by
  have h1 := h.2.1
  have h2 : r.l.length * 8 ≤ reachBytes := Nat.le_trans (Nat.mul_le_mul_left _ hb) h1
  unfold reachBytes at h2
  omega
def betB (x lo hi : Int) : Bool := decide (lo ≤ x) && decide (x ≤ hi)
def qrB (x : Int) : Bool := betB x 0 9007199254740992
def sizeB (c m : Int) : Bool := (qrB c && qrB m) && decide (0 < c)
def askB (x : Req) : Bool := (((decide (x.op < 0) || decide (3 < x.op)) || !(nmB x.key)) || !(vlB x.value)) || (decide (2 ≤ x.op) && !(strE x.value))
def caksB (l : List Req) : Bool := !(l.any askB) && decide ((l.length : Int) ≤ 8)
def cwantsB (c m : Int) (L : List Lab) (S : List Req) (T : List Lab) (wm : Int) : Bool := (((sizeB c m && lrB L) && caksB S) && lrB T) && betB wm 0 1800
def cworkB (x : Wl) : Bool := betB x.replicas 0 1000000 && cwantsB x.cpu x.mem x.labels.l x.select.l x.tolerate.l x.warm
def cpod1 (x : Pd) : Bool := ((!(nmB x.owner) || !(vlB x.node)) || !(betB x.phase 0 3)) || !(betB x.since 0 4611686018427387904)
def cpod2 (x : Pd) : Bool := ((x.phase == 3) || ((!(strE x.node)) == (!(x.phase == 0)))) && cwantsB x.cpu x.mem x.labels.l x.select.l x.tolerate.l x.warm
def cnodeB (x : Nd) : Bool := (((vlB x.group && sizeB x.cpu x.mem) && lrB x.labels.l) && lrB x.taints.l) && betB x.since 0 4611686018427387904
def cgroupB (x : Gr) : Bool := ((((((decide (0 ≤ x.min) && decide (x.min ≤ x.max)) && decide (x.max ≤ 64)) && betB x.target x.min x.max) && sizeB x.cpu x.mem) && lrB x.labels.l) && lrB x.taints.l) && betB x.priority 0 1000
def cpolB (x : Pol) : Bool := betB x.value 1 1000000 && betB x.period 1 1800
def cmet1 (x : Met) : Bool := ((!(betB x.kind 0 3) || !(nmB x.name)) || !(qrB x.target)) || (x.target == 0)
def isS (s t : ByteArray) : Bool := s.toList == t.toList
def cmet2 (x : Met) : Bool := (!(x.kind == 0) || isS x.name ⟨#[99, 112, 117]⟩) || isS x.name ⟨#[109, 101, 109]⟩
def cnoB (x : Bh) : Bool := ((x.window == 0) && (x.pick == 0)) && ((x.policies.l.length : Int) == 0)
theorem res_not {ρ : Nat → Nat × Nat} (b c : Bool) : resVal ρ [.v (pickV b (.bool false) (.bool c))] = .bool (!b && c) := by cases b <;> cases c <;> rfl
set_option maxRecDepth 100000 in
theorem between_int (x lo hi : Int) (w : World) : Calls Tryz.prog 82 #[.int .i64 (x), .int .i64 (lo), .int .i64 (hi)] w fun e w' => e = .returned (.bool (betB x lo hi)) ∧ Below w.heap.size w w' := by
  refine px_plain (args := [.int .i64 (x), .int .i64 (lo), .int .i64 (hi)]) (callTab []) (litIn []) 15 Tryz.func82 (by kernel_rfl) (by kernel_rfl) (by simp)
    [] [] [.v (.bool (betB x lo hi))] (by kernel_rfl) (fun p hp => by cases hp) ?_ (fun ρ w' hb => ⟨rfl, hb⟩)
  exact paid2_nil
set_option maxRecDepth 100000 in
theorem between_64 (x lo hi : Int) (w : World) : Calls Tryz.prog 85 #[.int .i64 (x), .int .i64 (lo), .int .i64 (hi)] w fun e w' => e = .returned (.bool (betB x lo hi)) ∧ Below w.heap.size w w' := by
  refine px_plain (args := [.int .i64 (x), .int .i64 (lo), .int .i64 (hi)]) (callTab []) (litIn []) 15 Tryz.func85 (by kernel_rfl) (by kernel_rfl) (by simp)
    [] [] [.v (.bool (betB x lo hi))] (by kernel_rfl) (fun p hp => by cases hp) ?_ (fun ρ w' hb => ⟨rfl, hb⟩)
  exact paid2_nil
set_option maxRecDepth 100000 in
theorem qright_any (x : Int) (w : World) : Calls Tryz.prog 108 #[.int .i64 (x)] w fun e w' => e = .returned (.bool (qrB x)) ∧ Below w.heap.size w w' := by
  refine px_plain (args := [.int .i64 (x)]) (callTab []) (litIn []) 9 Tryz.func108 (by kernel_rfl) (by kernel_rfl) (by simp)
    [] [] [.v (.bool (qrB x))] (by kernel_rfl) (fun p hp => by cases hp) ?_ (fun ρ w' hb => ⟨rfl, hb⟩)
  exact paid2_nil
set_option maxRecDepth 100000 in
theorem vsize_any (c m : Int) (w : World) : Calls Tryz.prog 86 #[.agg #[.int .i64 (c), .int .i64 (m)]] w fun e w' => e = .returned (.bool (sizeB c m)) ∧ Below w.heap.size w w' := by
  refine px_plain (args := [.agg #[.int .i64 (c), .int .i64 (m)]]) (callTab [(5, .v (.bool (qrB (c)))), (9, .v (.bool (qrB (m))))]) (litIn []) 16 Tryz.func86 (by kernel_rfl) (by kernel_rfl) (by simp)
    [.call 108 [.v (.int .i64 (c))] (.v (.bool (qrB (c)))), .call 108 [.v (.int .i64 (m))] (.v (.bool (qrB (m))))] [] [.v (.bool (sizeB c m))] (by kernel_rfl) (fun p hp => by cases hp) ?_ (fun ρ w' hb => ⟨rfl, hb⟩)
  exact paid2_cons (fun ρ _ w1 hb => qright_any _ w1) (paid2_cons (fun ρ _ w1 hb => qright_any _ w1) (paid2_nil))
set_option maxRecDepth 100000 in
theorem vnamed_any (s : ByteArray) (w : World) (hs : wfs s) : Calls Tryz.prog 84 #[.string s] w fun e w' => e = .returned (.bool (vlB s)) ∧ Below w.heap.size w w' := by
  refine px_plain (args := [.string s]) (callTab [(7, .v (.bool (nmB s)))]) (litIn []) 9 Tryz.func84 (by kernel_rfl) (by kernel_rfl) (by simp)
    [.call 36 [.v (.string s)] (.v (.bool (nmB s)))] [] [.v (.bool (vlB s))] (by kernel_rfl) (fun p hp => by cases hp) ?_ (fun ρ w' hb => ⟨rfl, hb⟩)
  exact paid2_cons (fun ρ _ w1 hb => (lname_any _ w1 (wfs_max hs)).mono fun e w' ⟨h1, h2⟩ => ⟨h1, h2 ▸ Below.refl _ _⟩) (paid2_nil)
set_option maxRecDepth 100000 in
theorem lask_any (x : Req) (w : World) (hx : x.Wf) : Calls Tryz.prog 124 #[.agg x.cells.toArray] w fun e w' => e = .returned (.bool (askB x)) ∧ Below w.heap.size w w' := by
  refine px_plain (args := [.agg x.cells.toArray]) (callTab [(14, .v (.bool (nmB x.key))), (20, .v (.bool (vlB x.value)))]) (litIn []) 33 Tryz.func124 (by kernel_rfl) (by kernel_rfl) (by simp)
    [.call 36 [.v (.string x.key)] (.v (.bool (nmB x.key))), .call 109 [.v (.string x.value)] (.v (.bool (vlB x.value)))] [] [.v (.bool (askB x))] (by kernel_rfl) (fun p hp => by cases hp) ?_ (fun ρ w' hb => ⟨rfl, hb⟩)
  exact paid2_cons (fun ρ _ w1 hb => (lname_any _ w1 (wfs_max hx.1)).mono fun e w' ⟨h1, h2⟩ => ⟨h1, h2 ▸ Below.refl _ _⟩) (paid2_cons (fun ρ _ w1 hb => lvalue_any _ w1 (wfs_max hx.2.1)) (paid2_nil))
set_option maxRecDepth 100000 in
theorem lasks_any (r : Row Req) (w : World) (hr : ReqsOk w r) : Calls Tryz.prog 107 #[r.v] w fun e w' => e = .returned (.bool (caksB r.l)) ∧ Below w.heap.size w w' := by
  have hc := fun (w1 : World) (hb : Below w.heap.size w w1) => contains_req r [] askB w1 (hr.below hb) (row_len hr (by decide)) fun k h w' _ => lask_any r.l[k] w' (hr.2.2 _ (List.getElem_mem h))
  obtain ⟨v, l⟩ := r
  obtain ⟨A, c, e, _⟩ := id hr.1
  simp only at e hc
  subst e
  refine px_plain (args := [.slice A l.length c]) (callTab [(5, .v (.bool (l.any askB)))]) (litIn []) 13 Tryz.func107 (by kernel_rfl) (by kernel_rfl) (by simp)
    [.call 123 [.v (.slice A l.length c), .v (.func (.func 124) #[] #[])] (.v (.bool (l.any askB)))] [] [.v (.bool (caksB l))] (by kernel_rfl) (fun p hp => by cases hp) ?_ (fun ρ w' hb => ⟨rfl, hb⟩)
  exact paid2_cons (fun ρ _ w1 hb => hc w1 hb) paid2_nil
set_option maxRecDepth 100000 in
theorem vwants_any (c m : Int) (L : Row Lab) (S : Row Req) (T : Row Lab) (wm : Int) (w : World) (hL : LabsOk w L) (hS : ReqsOk w S) (hT : LabsOk w T) : Calls Tryz.prog 83 #[.agg #[.int .i64 (c), .int .i64 (m)], L.v, S.v, T.v, .int .i64 (wm)] w fun e w' => e = .returned (.bool (cwantsB c m L.l S.l T.l wm)) ∧ Below w.heap.size w w' := by
  refine px_plain (args := [.agg #[.int .i64 (c), .int .i64 (m)], L.v, S.v, T.v, .int .i64 (wm)]) (callTab [(12, .v (.bool (sizeB (c) (m)))), (15, .v (.bool (lrB L.l))), (19, .v (.bool (caksB S.l))), (23, .v (.bool (lrB T.l))), (27, .v (.bool (betB (wm) (0) (1800))))]) (litIn []) 29 Tryz.func83 (by kernel_rfl) (by kernel_rfl) (by simp)
    [.call 86 [.v (.agg #[.int .i64 (c), .int .i64 (m)])] (.v (.bool (sizeB (c) (m)))), .call 87 [.v (L.v)] (.v (.bool (lrB L.l))), .call 107 [.v (S.v)] (.v (.bool (caksB S.l))), .call 87 [.v (T.v)] (.v (.bool (lrB T.l))), .call 82 [.v (.int .i64 (wm)), .v (.int .i64 (0)), .v (.int .i64 (1800))] (.v (.bool (betB (wm) (0) (1800))))] [] [.v (.bool (cwantsB c m L.l S.l T.l wm))] (by kernel_rfl) (fun p hp => by cases hp) ?_ (fun ρ w' hb => ⟨rfl, hb⟩)
  exact paid2_cons (fun ρ _ w1 hb => vsize_any _ _ w1) (paid2_cons (fun ρ _ w1 hb => lright_any _ w1 (hL.below hb)) (paid2_cons (fun ρ _ w1 hb => lasks_any _ w1 (hS.below hb)) (paid2_cons (fun ρ _ w1 hb => lright_any _ w1 (hT.below hb)) (paid2_cons (fun ρ _ w1 hb => between_int _ _ _ w1) (paid2_nil)))))
set_option maxRecDepth 100000 in
theorem vwork_any (x : Wl) (w : World) (hx : x.Ok w) : Calls Tryz.prog 61 #[.agg x.cells.toArray] w fun e w' => e = .returned (.bool (cworkB x)) ∧ Below w.heap.size w w' := by
  obtain ⟨x0, x1, x2, ⟨v3, l3⟩, ⟨v4, l4⟩, ⟨v5, l5⟩, x6⟩ := x
  obtain ⟨A3, c3, rfl⟩ : ∃ A c, v3 = .slice A l3.length c := by obtain ⟨A, c, e, _⟩ := hx.labels.1; exact ⟨A, c, e⟩
  obtain ⟨A4, c4, rfl⟩ : ∃ A c, v4 = .slice A l4.length c := by obtain ⟨A, c, e, _⟩ := hx.select.1; exact ⟨A, c, e⟩
  obtain ⟨A5, c5, rfl⟩ : ∃ A c, v5 = .slice A l5.length c := by obtain ⟨A, c, e, _⟩ := hx.tolerate.1; exact ⟨A, c, e⟩
  refine px_plain (args := [.agg (⟨x0, x1, x2, ⟨.slice A3 l3.length c3, l3⟩, ⟨.slice A4 l4.length c4, l4⟩, ⟨.slice A5 l5.length c5, l5⟩, x6⟩ : Wl).cells.toArray]) (callTab [(5, .v (.bool (betB ((⟨x0, x1, x2, ⟨.slice A3 l3.length c3, l3⟩, ⟨.slice A4 l4.length c4, l4⟩, ⟨.slice A5 l5.length c5, l5⟩, x6⟩ : Wl).replicas) (0) (1000000)))), (17, .v (.bool (cwantsB (⟨x0, x1, x2, ⟨.slice A3 l3.length c3, l3⟩, ⟨.slice A4 l4.length c4, l4⟩, ⟨.slice A5 l5.length c5, l5⟩, x6⟩ : Wl).cpu (⟨x0, x1, x2, ⟨.slice A3 l3.length c3, l3⟩, ⟨.slice A4 l4.length c4, l4⟩, ⟨.slice A5 l5.length c5, l5⟩, x6⟩ : Wl).mem (⟨x0, x1, x2, ⟨.slice A3 l3.length c3, l3⟩, ⟨.slice A4 l4.length c4, l4⟩, ⟨.slice A5 l5.length c5, l5⟩, x6⟩ : Wl).labels.l (⟨x0, x1, x2, ⟨.slice A3 l3.length c3, l3⟩, ⟨.slice A4 l4.length c4, l4⟩, ⟨.slice A5 l5.length c5, l5⟩, x6⟩ : Wl).select.l (⟨x0, x1, x2, ⟨.slice A3 l3.length c3, l3⟩, ⟨.slice A4 l4.length c4, l4⟩, ⟨.slice A5 l5.length c5, l5⟩, x6⟩ : Wl).tolerate.l (⟨x0, x1, x2, ⟨.slice A3 l3.length c3, l3⟩, ⟨.slice A4 l4.length c4, l4⟩, ⟨.slice A5 l5.length c5, l5⟩, x6⟩ : Wl).warm)))]) (litIn []) 19 Tryz.func61 (by kernel_rfl) (by kernel_rfl) (by simp)
    [.call 82 [.v (.int .i64 ((⟨x0, x1, x2, ⟨.slice A3 l3.length c3, l3⟩, ⟨.slice A4 l4.length c4, l4⟩, ⟨.slice A5 l5.length c5, l5⟩, x6⟩ : Wl).replicas)), .v (.int .i64 (0)), .v (.int .i64 (1000000))] (.v (.bool (betB ((⟨x0, x1, x2, ⟨.slice A3 l3.length c3, l3⟩, ⟨.slice A4 l4.length c4, l4⟩, ⟨.slice A5 l5.length c5, l5⟩, x6⟩ : Wl).replicas) (0) (1000000)))), .call 83 [.v (.agg #[.int .i64 ((⟨x0, x1, x2, ⟨.slice A3 l3.length c3, l3⟩, ⟨.slice A4 l4.length c4, l4⟩, ⟨.slice A5 l5.length c5, l5⟩, x6⟩ : Wl).cpu), .int .i64 ((⟨x0, x1, x2, ⟨.slice A3 l3.length c3, l3⟩, ⟨.slice A4 l4.length c4, l4⟩, ⟨.slice A5 l5.length c5, l5⟩, x6⟩ : Wl).mem)]), .v ((⟨x0, x1, x2, ⟨.slice A3 l3.length c3, l3⟩, ⟨.slice A4 l4.length c4, l4⟩, ⟨.slice A5 l5.length c5, l5⟩, x6⟩ : Wl).labels.v), .v ((⟨x0, x1, x2, ⟨.slice A3 l3.length c3, l3⟩, ⟨.slice A4 l4.length c4, l4⟩, ⟨.slice A5 l5.length c5, l5⟩, x6⟩ : Wl).select.v), .v ((⟨x0, x1, x2, ⟨.slice A3 l3.length c3, l3⟩, ⟨.slice A4 l4.length c4, l4⟩, ⟨.slice A5 l5.length c5, l5⟩, x6⟩ : Wl).tolerate.v), .v (.int .i64 ((⟨x0, x1, x2, ⟨.slice A3 l3.length c3, l3⟩, ⟨.slice A4 l4.length c4, l4⟩, ⟨.slice A5 l5.length c5, l5⟩, x6⟩ : Wl).warm))] (.v (.bool (cwantsB (⟨x0, x1, x2, ⟨.slice A3 l3.length c3, l3⟩, ⟨.slice A4 l4.length c4, l4⟩, ⟨.slice A5 l5.length c5, l5⟩, x6⟩ : Wl).cpu (⟨x0, x1, x2, ⟨.slice A3 l3.length c3, l3⟩, ⟨.slice A4 l4.length c4, l4⟩, ⟨.slice A5 l5.length c5, l5⟩, x6⟩ : Wl).mem (⟨x0, x1, x2, ⟨.slice A3 l3.length c3, l3⟩, ⟨.slice A4 l4.length c4, l4⟩, ⟨.slice A5 l5.length c5, l5⟩, x6⟩ : Wl).labels.l (⟨x0, x1, x2, ⟨.slice A3 l3.length c3, l3⟩, ⟨.slice A4 l4.length c4, l4⟩, ⟨.slice A5 l5.length c5, l5⟩, x6⟩ : Wl).select.l (⟨x0, x1, x2, ⟨.slice A3 l3.length c3, l3⟩, ⟨.slice A4 l4.length c4, l4⟩, ⟨.slice A5 l5.length c5, l5⟩, x6⟩ : Wl).tolerate.l (⟨x0, x1, x2, ⟨.slice A3 l3.length c3, l3⟩, ⟨.slice A4 l4.length c4, l4⟩, ⟨.slice A5 l5.length c5, l5⟩, x6⟩ : Wl).warm)))] [] [.v (.bool (cworkB (⟨x0, x1, x2, ⟨.slice A3 l3.length c3, l3⟩, ⟨.slice A4 l4.length c4, l4⟩, ⟨.slice A5 l5.length c5, l5⟩, x6⟩ : Wl)))] (by kernel_rfl) (fun p hp => by cases hp) ?_ (fun ρ w' hb => ⟨rfl, hb⟩)
  exact paid2_cons (fun ρ _ w1 hb => between_int _ _ _ w1) (paid2_cons (fun ρ _ w1 hb => vwants_any _ _ _ _ _ _ w1 (hx.labels.below hb) (hx.select.below hb) (hx.tolerate.below hb)) (paid2_nil))
set_option maxRecDepth 100000 in
theorem vpod_any (x : Pd) (w : World) (hx : x.Ok w) : Calls Tryz.prog 62 #[.agg x.cells.toArray] w fun e w' => e = .returned (.bool (!(cpod1 x) && cpod2 x)) ∧ Below w.heap.size w w' := by
  obtain ⟨x0, x1, x2, x3, x4, x5, ⟨v6, l6⟩, ⟨v7, l7⟩, ⟨v8, l8⟩, x9⟩ := x
  obtain ⟨A6, c6, rfl⟩ : ∃ A c, v6 = .slice A l6.length c := by obtain ⟨A, c, e, _⟩ := hx.labels.1; exact ⟨A, c, e⟩
  obtain ⟨A7, c7, rfl⟩ : ∃ A c, v7 = .slice A l7.length c := by obtain ⟨A, c, e, _⟩ := hx.select.1; exact ⟨A, c, e⟩
  obtain ⟨A8, c8, rfl⟩ : ∃ A c, v8 = .slice A l8.length c := by obtain ⟨A, c, e, _⟩ := hx.tolerate.1; exact ⟨A, c, e⟩
  refine px_plain (args := [.agg (⟨x0, x1, x2, x3, x4, x5, ⟨.slice A6 l6.length c6, l6⟩, ⟨.slice A7 l7.length c7, l7⟩, ⟨.slice A8 l8.length c8, l8⟩, x9⟩ : Pd).cells.toArray]) (callTab [(6, .v (.bool (nmB (⟨x0, x1, x2, x3, x4, x5, ⟨.slice A6 l6.length c6, l6⟩, ⟨.slice A7 l7.length c7, l7⟩, ⟨.slice A8 l8.length c8, l8⟩, x9⟩ : Pd).owner))), (11, .v (.bool (vlB (⟨x0, x1, x2, x3, x4, x5, ⟨.slice A6 l6.length c6, l6⟩, ⟨.slice A7 l7.length c7, l7⟩, ⟨.slice A8 l8.length c8, l8⟩, x9⟩ : Pd).node))), (17, .v (.bool (betB ((⟨x0, x1, x2, x3, x4, x5, ⟨.slice A6 l6.length c6, l6⟩, ⟨.slice A7 l7.length c7, l7⟩, ⟨.slice A8 l8.length c8, l8⟩, x9⟩ : Pd).phase) (0) (3)))), (23, .v (.bool (betB ((⟨x0, x1, x2, x3, x4, x5, ⟨.slice A6 l6.length c6, l6⟩, ⟨.slice A7 l7.length c7, l7⟩, ⟨.slice A8 l8.length c8, l8⟩, x9⟩ : Pd).since) (0) (4611686018427387904)))), (50, .v (.bool (cwantsB (⟨x0, x1, x2, x3, x4, x5, ⟨.slice A6 l6.length c6, l6⟩, ⟨.slice A7 l7.length c7, l7⟩, ⟨.slice A8 l8.length c8, l8⟩, x9⟩ : Pd).cpu (⟨x0, x1, x2, x3, x4, x5, ⟨.slice A6 l6.length c6, l6⟩, ⟨.slice A7 l7.length c7, l7⟩, ⟨.slice A8 l8.length c8, l8⟩, x9⟩ : Pd).mem (⟨x0, x1, x2, x3, x4, x5, ⟨.slice A6 l6.length c6, l6⟩, ⟨.slice A7 l7.length c7, l7⟩, ⟨.slice A8 l8.length c8, l8⟩, x9⟩ : Pd).labels.l (⟨x0, x1, x2, x3, x4, x5, ⟨.slice A6 l6.length c6, l6⟩, ⟨.slice A7 l7.length c7, l7⟩, ⟨.slice A8 l8.length c8, l8⟩, x9⟩ : Pd).select.l (⟨x0, x1, x2, x3, x4, x5, ⟨.slice A6 l6.length c6, l6⟩, ⟨.slice A7 l7.length c7, l7⟩, ⟨.slice A8 l8.length c8, l8⟩, x9⟩ : Pd).tolerate.l (⟨x0, x1, x2, x3, x4, x5, ⟨.slice A6 l6.length c6, l6⟩, ⟨.slice A7 l7.length c7, l7⟩, ⟨.slice A8 l8.length c8, l8⟩, x9⟩ : Pd).warm)))]) (litIn []) 52 Tryz.func62 (by kernel_rfl) (by kernel_rfl) (by simp)
    [.call 36 [.v (.string (⟨x0, x1, x2, x3, x4, x5, ⟨.slice A6 l6.length c6, l6⟩, ⟨.slice A7 l7.length c7, l7⟩, ⟨.slice A8 l8.length c8, l8⟩, x9⟩ : Pd).owner)] (.v (.bool (nmB (⟨x0, x1, x2, x3, x4, x5, ⟨.slice A6 l6.length c6, l6⟩, ⟨.slice A7 l7.length c7, l7⟩, ⟨.slice A8 l8.length c8, l8⟩, x9⟩ : Pd).owner))), .call 84 [.v (.string (⟨x0, x1, x2, x3, x4, x5, ⟨.slice A6 l6.length c6, l6⟩, ⟨.slice A7 l7.length c7, l7⟩, ⟨.slice A8 l8.length c8, l8⟩, x9⟩ : Pd).node)] (.v (.bool (vlB (⟨x0, x1, x2, x3, x4, x5, ⟨.slice A6 l6.length c6, l6⟩, ⟨.slice A7 l7.length c7, l7⟩, ⟨.slice A8 l8.length c8, l8⟩, x9⟩ : Pd).node))), .call 82 [.v (.int .i64 ((⟨x0, x1, x2, x3, x4, x5, ⟨.slice A6 l6.length c6, l6⟩, ⟨.slice A7 l7.length c7, l7⟩, ⟨.slice A8 l8.length c8, l8⟩, x9⟩ : Pd).phase)), .v (.int .i64 (0)), .v (.int .i64 (3))] (.v (.bool (betB ((⟨x0, x1, x2, x3, x4, x5, ⟨.slice A6 l6.length c6, l6⟩, ⟨.slice A7 l7.length c7, l7⟩, ⟨.slice A8 l8.length c8, l8⟩, x9⟩ : Pd).phase) (0) (3)))), .call 85 [.v (.int .i64 ((⟨x0, x1, x2, x3, x4, x5, ⟨.slice A6 l6.length c6, l6⟩, ⟨.slice A7 l7.length c7, l7⟩, ⟨.slice A8 l8.length c8, l8⟩, x9⟩ : Pd).since)), .v (.int .i64 (0)), .v (.int .i64 (4611686018427387904))] (.v (.bool (betB ((⟨x0, x1, x2, x3, x4, x5, ⟨.slice A6 l6.length c6, l6⟩, ⟨.slice A7 l7.length c7, l7⟩, ⟨.slice A8 l8.length c8, l8⟩, x9⟩ : Pd).since) (0) (4611686018427387904)))), .call 83 [.v (.agg #[.int .i64 ((⟨x0, x1, x2, x3, x4, x5, ⟨.slice A6 l6.length c6, l6⟩, ⟨.slice A7 l7.length c7, l7⟩, ⟨.slice A8 l8.length c8, l8⟩, x9⟩ : Pd).cpu), .int .i64 ((⟨x0, x1, x2, x3, x4, x5, ⟨.slice A6 l6.length c6, l6⟩, ⟨.slice A7 l7.length c7, l7⟩, ⟨.slice A8 l8.length c8, l8⟩, x9⟩ : Pd).mem)]), .v ((⟨x0, x1, x2, x3, x4, x5, ⟨.slice A6 l6.length c6, l6⟩, ⟨.slice A7 l7.length c7, l7⟩, ⟨.slice A8 l8.length c8, l8⟩, x9⟩ : Pd).labels.v), .v ((⟨x0, x1, x2, x3, x4, x5, ⟨.slice A6 l6.length c6, l6⟩, ⟨.slice A7 l7.length c7, l7⟩, ⟨.slice A8 l8.length c8, l8⟩, x9⟩ : Pd).select.v), .v ((⟨x0, x1, x2, x3, x4, x5, ⟨.slice A6 l6.length c6, l6⟩, ⟨.slice A7 l7.length c7, l7⟩, ⟨.slice A8 l8.length c8, l8⟩, x9⟩ : Pd).tolerate.v), .v (.int .i64 ((⟨x0, x1, x2, x3, x4, x5, ⟨.slice A6 l6.length c6, l6⟩, ⟨.slice A7 l7.length c7, l7⟩, ⟨.slice A8 l8.length c8, l8⟩, x9⟩ : Pd).warm))] (.v (.bool (cwantsB (⟨x0, x1, x2, x3, x4, x5, ⟨.slice A6 l6.length c6, l6⟩, ⟨.slice A7 l7.length c7, l7⟩, ⟨.slice A8 l8.length c8, l8⟩, x9⟩ : Pd).cpu (⟨x0, x1, x2, x3, x4, x5, ⟨.slice A6 l6.length c6, l6⟩, ⟨.slice A7 l7.length c7, l7⟩, ⟨.slice A8 l8.length c8, l8⟩, x9⟩ : Pd).mem (⟨x0, x1, x2, x3, x4, x5, ⟨.slice A6 l6.length c6, l6⟩, ⟨.slice A7 l7.length c7, l7⟩, ⟨.slice A8 l8.length c8, l8⟩, x9⟩ : Pd).labels.l (⟨x0, x1, x2, x3, x4, x5, ⟨.slice A6 l6.length c6, l6⟩, ⟨.slice A7 l7.length c7, l7⟩, ⟨.slice A8 l8.length c8, l8⟩, x9⟩ : Pd).select.l (⟨x0, x1, x2, x3, x4, x5, ⟨.slice A6 l6.length c6, l6⟩, ⟨.slice A7 l7.length c7, l7⟩, ⟨.slice A8 l8.length c8, l8⟩, x9⟩ : Pd).tolerate.l (⟨x0, x1, x2, x3, x4, x5, ⟨.slice A6 l6.length c6, l6⟩, ⟨.slice A7 l7.length c7, l7⟩, ⟨.slice A8 l8.length c8, l8⟩, x9⟩ : Pd).warm)))] [] [.v (pickV (cpod1 (⟨x0, x1, x2, x3, x4, x5, ⟨.slice A6 l6.length c6, l6⟩, ⟨.slice A7 l7.length c7, l7⟩, ⟨.slice A8 l8.length c8, l8⟩, x9⟩ : Pd)) (.bool false) (.bool (cpod2 (⟨x0, x1, x2, x3, x4, x5, ⟨.slice A6 l6.length c6, l6⟩, ⟨.slice A7 l7.length c7, l7⟩, ⟨.slice A8 l8.length c8, l8⟩, x9⟩ : Pd))))] (by kernel_rfl) (fun p hp => by cases hp) ?_ (fun ρ w' hb => ⟨by rw [res_not], hb⟩)
  exact paid2_cons (fun ρ _ w1 hb => (lname_any _ w1 (wfs_max hx.owner)).mono fun e w' ⟨h1, h2⟩ => ⟨h1, h2 ▸ Below.refl _ _⟩) (paid2_cons (fun ρ _ w1 hb => vnamed_any _ w1 hx.node) (paid2_cons (fun ρ _ w1 hb => between_int _ _ _ w1) (paid2_cons (fun ρ _ w1 hb => between_64 _ _ _ w1) (paid2_cons (fun ρ _ w1 hb => vwants_any _ _ _ _ _ _ w1 (hx.labels.below hb) (hx.select.below hb) (hx.tolerate.below hb)) (paid2_nil)))))
set_option maxRecDepth 100000 in
theorem vnode_any (x : Nd) (w : World) (hx : x.Ok w) : Calls Tryz.prog 63 #[.agg x.cells.toArray] w fun e w' => e = .returned (.bool (cnodeB x)) ∧ Below w.heap.size w w' := by
  obtain ⟨x0, x1, x2, ⟨v3, l3⟩, ⟨v4, l4⟩, x5, x6⟩ := x
  obtain ⟨A3, c3, rfl⟩ : ∃ A c, v3 = .slice A l3.length c := by obtain ⟨A, c, e, _⟩ := hx.labels.1; exact ⟨A, c, e⟩
  obtain ⟨A4, c4, rfl⟩ : ∃ A c, v4 = .slice A l4.length c := by obtain ⟨A, c, e, _⟩ := hx.taints.1; exact ⟨A, c, e⟩
  refine px_plain (args := [.agg (⟨x0, x1, x2, ⟨.slice A3 l3.length c3, l3⟩, ⟨.slice A4 l4.length c4, l4⟩, x5, x6⟩ : Nd).cells.toArray]) (callTab [(5, .v (.bool (vlB (⟨x0, x1, x2, ⟨.slice A3 l3.length c3, l3⟩, ⟨.slice A4 l4.length c4, l4⟩, x5, x6⟩ : Nd).group))), (9, .v (.bool (sizeB ((⟨x0, x1, x2, ⟨.slice A3 l3.length c3, l3⟩, ⟨.slice A4 l4.length c4, l4⟩, x5, x6⟩ : Nd).cpu) ((⟨x0, x1, x2, ⟨.slice A3 l3.length c3, l3⟩, ⟨.slice A4 l4.length c4, l4⟩, x5, x6⟩ : Nd).mem)))), (14, .v (.bool (lrB (⟨x0, x1, x2, ⟨.slice A3 l3.length c3, l3⟩, ⟨.slice A4 l4.length c4, l4⟩, x5, x6⟩ : Nd).labels.l))), (19, .v (.bool (lrB (⟨x0, x1, x2, ⟨.slice A3 l3.length c3, l3⟩, ⟨.slice A4 l4.length c4, l4⟩, x5, x6⟩ : Nd).taints.l))), (24, .v (.bool (betB ((⟨x0, x1, x2, ⟨.slice A3 l3.length c3, l3⟩, ⟨.slice A4 l4.length c4, l4⟩, x5, x6⟩ : Nd).since) (0) (4611686018427387904))))]) (litIn []) 26 Tryz.func63 (by kernel_rfl) (by kernel_rfl) (by simp)
    [.call 84 [.v (.string (⟨x0, x1, x2, ⟨.slice A3 l3.length c3, l3⟩, ⟨.slice A4 l4.length c4, l4⟩, x5, x6⟩ : Nd).group)] (.v (.bool (vlB (⟨x0, x1, x2, ⟨.slice A3 l3.length c3, l3⟩, ⟨.slice A4 l4.length c4, l4⟩, x5, x6⟩ : Nd).group))), .call 86 [.v (.agg #[.int .i64 ((⟨x0, x1, x2, ⟨.slice A3 l3.length c3, l3⟩, ⟨.slice A4 l4.length c4, l4⟩, x5, x6⟩ : Nd).cpu), .int .i64 ((⟨x0, x1, x2, ⟨.slice A3 l3.length c3, l3⟩, ⟨.slice A4 l4.length c4, l4⟩, x5, x6⟩ : Nd).mem)])] (.v (.bool (sizeB ((⟨x0, x1, x2, ⟨.slice A3 l3.length c3, l3⟩, ⟨.slice A4 l4.length c4, l4⟩, x5, x6⟩ : Nd).cpu) ((⟨x0, x1, x2, ⟨.slice A3 l3.length c3, l3⟩, ⟨.slice A4 l4.length c4, l4⟩, x5, x6⟩ : Nd).mem)))), .call 87 [.v ((⟨x0, x1, x2, ⟨.slice A3 l3.length c3, l3⟩, ⟨.slice A4 l4.length c4, l4⟩, x5, x6⟩ : Nd).labels.v)] (.v (.bool (lrB (⟨x0, x1, x2, ⟨.slice A3 l3.length c3, l3⟩, ⟨.slice A4 l4.length c4, l4⟩, x5, x6⟩ : Nd).labels.l))), .call 87 [.v ((⟨x0, x1, x2, ⟨.slice A3 l3.length c3, l3⟩, ⟨.slice A4 l4.length c4, l4⟩, x5, x6⟩ : Nd).taints.v)] (.v (.bool (lrB (⟨x0, x1, x2, ⟨.slice A3 l3.length c3, l3⟩, ⟨.slice A4 l4.length c4, l4⟩, x5, x6⟩ : Nd).taints.l))), .call 85 [.v (.int .i64 ((⟨x0, x1, x2, ⟨.slice A3 l3.length c3, l3⟩, ⟨.slice A4 l4.length c4, l4⟩, x5, x6⟩ : Nd).since)), .v (.int .i64 (0)), .v (.int .i64 (4611686018427387904))] (.v (.bool (betB ((⟨x0, x1, x2, ⟨.slice A3 l3.length c3, l3⟩, ⟨.slice A4 l4.length c4, l4⟩, x5, x6⟩ : Nd).since) (0) (4611686018427387904))))] [] [.v (.bool (cnodeB (⟨x0, x1, x2, ⟨.slice A3 l3.length c3, l3⟩, ⟨.slice A4 l4.length c4, l4⟩, x5, x6⟩ : Nd)))] (by kernel_rfl) (fun p hp => by cases hp) ?_ (fun ρ w' hb => ⟨rfl, hb⟩)
  exact paid2_cons (fun ρ _ w1 hb => vnamed_any _ w1 hx.group) (paid2_cons (fun ρ _ w1 hb => vsize_any _ _ w1) (paid2_cons (fun ρ _ w1 hb => lright_any _ w1 (hx.labels.below hb)) (paid2_cons (fun ρ _ w1 hb => lright_any _ w1 (hx.taints.below hb)) (paid2_cons (fun ρ _ w1 hb => between_64 _ _ _ w1) (paid2_nil)))))
set_option maxRecDepth 100000 in
theorem vgroup_any (x : Gr) (w : World) (hx : x.Ok w) : Calls Tryz.prog 64 #[.agg x.cells.toArray] w fun e w' => e = .returned (.bool (cgroupB x)) ∧ Below w.heap.size w w' := by
  obtain ⟨x0, x1, x2, x3, x4, ⟨v5, l5⟩, ⟨v6, l6⟩, x7⟩ := x
  obtain ⟨A5, c5, rfl⟩ : ∃ A c, v5 = .slice A l5.length c := by obtain ⟨A, c, e, _⟩ := hx.labels.1; exact ⟨A, c, e⟩
  obtain ⟨A6, c6, rfl⟩ : ∃ A c, v6 = .slice A l6.length c := by obtain ⟨A, c, e, _⟩ := hx.taints.1; exact ⟨A, c, e⟩
  refine px_plain (args := [.agg (⟨x0, x1, x2, x3, x4, ⟨.slice A5 l5.length c5, l5⟩, ⟨.slice A6 l6.length c6, l6⟩, x7⟩ : Gr).cells.toArray]) (callTab [(25, .v (.bool (betB ((⟨x0, x1, x2, x3, x4, ⟨.slice A5 l5.length c5, l5⟩, ⟨.slice A6 l6.length c6, l6⟩, x7⟩ : Gr).target) ((⟨x0, x1, x2, x3, x4, ⟨.slice A5 l5.length c5, l5⟩, ⟨.slice A6 l6.length c6, l6⟩, x7⟩ : Gr).min) ((⟨x0, x1, x2, x3, x4, ⟨.slice A5 l5.length c5, l5⟩, ⟨.slice A6 l6.length c6, l6⟩, x7⟩ : Gr).max)))), (30, .v (.bool (sizeB ((⟨x0, x1, x2, x3, x4, ⟨.slice A5 l5.length c5, l5⟩, ⟨.slice A6 l6.length c6, l6⟩, x7⟩ : Gr).cpu) ((⟨x0, x1, x2, x3, x4, ⟨.slice A5 l5.length c5, l5⟩, ⟨.slice A6 l6.length c6, l6⟩, x7⟩ : Gr).mem)))), (35, .v (.bool (lrB (⟨x0, x1, x2, x3, x4, ⟨.slice A5 l5.length c5, l5⟩, ⟨.slice A6 l6.length c6, l6⟩, x7⟩ : Gr).labels.l))), (40, .v (.bool (lrB (⟨x0, x1, x2, x3, x4, ⟨.slice A5 l5.length c5, l5⟩, ⟨.slice A6 l6.length c6, l6⟩, x7⟩ : Gr).taints.l))), (45, .v (.bool (betB ((⟨x0, x1, x2, x3, x4, ⟨.slice A5 l5.length c5, l5⟩, ⟨.slice A6 l6.length c6, l6⟩, x7⟩ : Gr).priority) (0) (1000))))]) (litIn []) 47 Tryz.func64 (by kernel_rfl) (by kernel_rfl) (by simp)
    [.call 82 [.v (.int .i64 ((⟨x0, x1, x2, x3, x4, ⟨.slice A5 l5.length c5, l5⟩, ⟨.slice A6 l6.length c6, l6⟩, x7⟩ : Gr).target)), .v (.int .i64 ((⟨x0, x1, x2, x3, x4, ⟨.slice A5 l5.length c5, l5⟩, ⟨.slice A6 l6.length c6, l6⟩, x7⟩ : Gr).min)), .v (.int .i64 ((⟨x0, x1, x2, x3, x4, ⟨.slice A5 l5.length c5, l5⟩, ⟨.slice A6 l6.length c6, l6⟩, x7⟩ : Gr).max))] (.v (.bool (betB ((⟨x0, x1, x2, x3, x4, ⟨.slice A5 l5.length c5, l5⟩, ⟨.slice A6 l6.length c6, l6⟩, x7⟩ : Gr).target) ((⟨x0, x1, x2, x3, x4, ⟨.slice A5 l5.length c5, l5⟩, ⟨.slice A6 l6.length c6, l6⟩, x7⟩ : Gr).min) ((⟨x0, x1, x2, x3, x4, ⟨.slice A5 l5.length c5, l5⟩, ⟨.slice A6 l6.length c6, l6⟩, x7⟩ : Gr).max)))), .call 86 [.v (.agg #[.int .i64 ((⟨x0, x1, x2, x3, x4, ⟨.slice A5 l5.length c5, l5⟩, ⟨.slice A6 l6.length c6, l6⟩, x7⟩ : Gr).cpu), .int .i64 ((⟨x0, x1, x2, x3, x4, ⟨.slice A5 l5.length c5, l5⟩, ⟨.slice A6 l6.length c6, l6⟩, x7⟩ : Gr).mem)])] (.v (.bool (sizeB ((⟨x0, x1, x2, x3, x4, ⟨.slice A5 l5.length c5, l5⟩, ⟨.slice A6 l6.length c6, l6⟩, x7⟩ : Gr).cpu) ((⟨x0, x1, x2, x3, x4, ⟨.slice A5 l5.length c5, l5⟩, ⟨.slice A6 l6.length c6, l6⟩, x7⟩ : Gr).mem)))), .call 87 [.v ((⟨x0, x1, x2, x3, x4, ⟨.slice A5 l5.length c5, l5⟩, ⟨.slice A6 l6.length c6, l6⟩, x7⟩ : Gr).labels.v)] (.v (.bool (lrB (⟨x0, x1, x2, x3, x4, ⟨.slice A5 l5.length c5, l5⟩, ⟨.slice A6 l6.length c6, l6⟩, x7⟩ : Gr).labels.l))), .call 87 [.v ((⟨x0, x1, x2, x3, x4, ⟨.slice A5 l5.length c5, l5⟩, ⟨.slice A6 l6.length c6, l6⟩, x7⟩ : Gr).taints.v)] (.v (.bool (lrB (⟨x0, x1, x2, x3, x4, ⟨.slice A5 l5.length c5, l5⟩, ⟨.slice A6 l6.length c6, l6⟩, x7⟩ : Gr).taints.l))), .call 82 [.v (.int .i64 ((⟨x0, x1, x2, x3, x4, ⟨.slice A5 l5.length c5, l5⟩, ⟨.slice A6 l6.length c6, l6⟩, x7⟩ : Gr).priority)), .v (.int .i64 (0)), .v (.int .i64 (1000))] (.v (.bool (betB ((⟨x0, x1, x2, x3, x4, ⟨.slice A5 l5.length c5, l5⟩, ⟨.slice A6 l6.length c6, l6⟩, x7⟩ : Gr).priority) (0) (1000))))] [] [.v (.bool (cgroupB (⟨x0, x1, x2, x3, x4, ⟨.slice A5 l5.length c5, l5⟩, ⟨.slice A6 l6.length c6, l6⟩, x7⟩ : Gr)))] (by kernel_rfl) (fun p hp => by cases hp) ?_ (fun ρ w' hb => ⟨rfl, hb⟩)
  exact paid2_cons (fun ρ _ w1 hb => between_int _ _ _ w1) (paid2_cons (fun ρ _ w1 hb => vsize_any _ _ w1) (paid2_cons (fun ρ _ w1 hb => lright_any _ w1 (hx.labels.below hb)) (paid2_cons (fun ρ _ w1 hb => lright_any _ w1 (hx.taints.below hb)) (paid2_cons (fun ρ _ w1 hb => between_int _ _ _ w1) (paid2_nil)))))
set_option maxRecDepth 100000 in
theorem vpolicy_any (x : Pol) (w : World) : Calls Tryz.prog 113 #[.agg x.cells.toArray] w fun e w' => e = .returned (.bool (cpolB x)) ∧ Below w.heap.size w w' := by
  refine px_plain (args := [.agg x.cells.toArray]) (callTab [(5, .v (.bool (betB (x.value) (1) (1000000)))), (9, .v (.bool (betB (x.period) (1) (1800))))]) (litIn []) 11 Tryz.func113 (by kernel_rfl) (by kernel_rfl) (by simp)
    [.call 82 [.v (.int .i64 (x.value)), .v (.int .i64 (1)), .v (.int .i64 (1000000))] (.v (.bool (betB (x.value) (1) (1000000)))), .call 82 [.v (.int .i64 (x.period)), .v (.int .i64 (1)), .v (.int .i64 (1800))] (.v (.bool (betB (x.period) (1) (1800))))] [] [.v (.bool (cpolB x))] (by kernel_rfl) (fun p hp => by cases hp) ?_ (fun ρ w' hb => ⟨rfl, hb⟩)
  exact paid2_cons (fun ρ _ w1 hb => between_int _ _ _ w1) (paid2_cons (fun ρ _ w1 hb => between_int _ _ _ w1) (paid2_nil))
set_option maxRecDepth 100000 in
theorem vmetric_any (x : Met) (w : World) (hx : x.Wf) : Calls Tryz.prog 89 #[.agg x.cells.toArray] w fun e w' => e = .returned (.bool (!(cmet1 x) && cmet2 x)) ∧ Below w.heap.size w w' := by
  refine px_plain (args := [.agg x.cells.toArray]) (callTab [(5, .v (.bool (betB (x.kind) (0) (3)))), (10, .v (.bool (nmB x.name))), (16, .v (.bool (qrB (x.target))))]) (litIn []) 37 Tryz.func89 (by kernel_rfl) (by kernel_rfl) (by simp)
    [.call 82 [.v (.int .i64 (x.kind)), .v (.int .i64 (0)), .v (.int .i64 (3))] (.v (.bool (betB (x.kind) (0) (3)))), .call 36 [.v (.string x.name)] (.v (.bool (nmB x.name))), .call 108 [.v (.int .i64 (x.target))] (.v (.bool (qrB (x.target))))] [] [.v (pickV (cmet1 x) (.bool false) (.bool (cmet2 x)))] (by kernel_rfl) (fun p hp => by cases hp) ?_ (fun ρ w' hb => ⟨by rw [res_not], hb⟩)
  exact paid2_cons (fun ρ _ w1 hb => between_int _ _ _ w1) (paid2_cons (fun ρ _ w1 hb => (lname_any _ w1 (wfs_max hx.2.1)).mono fun e w' ⟨h1, h2⟩ => ⟨h1, h2 ▸ Below.refl _ _⟩) (paid2_cons (fun ρ _ w1 hb => qright_any _ w1) (paid2_nil)))
set_option maxRecDepth 100000 in
theorem vnothing_any (x : Bh) (w : World) (hx : x.Ok w) : Calls Tryz.prog 92 #[.agg x.cells.toArray] w fun e w' => e = .returned (.bool (cnoB x)) ∧ Below w.heap.size w w' := by
  obtain ⟨x0, x1, ⟨v2, l2⟩⟩ := x
  obtain ⟨A2, c2, rfl⟩ : ∃ A c, v2 = .slice A l2.length c := by obtain ⟨A, c, e, _⟩ := hx.policies.1; exact ⟨A, c, e⟩
  refine px_plain (args := [.agg (⟨x0, x1, ⟨.slice A2 l2.length c2, l2⟩⟩ : Bh).cells.toArray]) (callTab []) (litIn []) 17 Tryz.func92 (by kernel_rfl) (by kernel_rfl) (by simp)
    [] [] [.v (.bool (cnoB (⟨x0, x1, ⟨.slice A2 l2.length c2, l2⟩⟩ : Bh)))] (by kernel_rfl) (fun p hp => by cases hp) ?_ (fun ρ w' hb => ⟨rfl, hb⟩)
  exact paid2_nil
end Go.Proofs.YtcbnmoghjhljbaaGreat
end
