/-
  The walk of valid.empties at any object; The walk of valid.Check at any object; The walk of trimtablaw07.goes; What trimtablaw07.Right says of any object of kind 4; valid.Check answers as trimtablaw07.Right: the plain law.
-/
import Derived.Test.YtlhaiflebigdlaaCSFws5
import Derived.Test.YtlhaiflebigdlaaCSFws4
section
namespace Go.Proofs.Ytlhaiflebigdlaa
open Go.RowKit Go.Proofs.Mem
set_option linter.unusedVariables false
set_option linter.unusedSimpArgs false
theorem res_bool {ρ : Nat → Nat × Nat} (b : Bool) : resVal ρ [.v (pickV b (.bool true) (.bool false))] = .bool b := by cases b <;> rfl
def cnoL (a b : Int) (n : Nat) : Bool := ((a == 0) && (b == 0)) && ((n : Int) == 0)
def ceH (ta : ByteArray) (mi ma : Int) (n1 n2 : Nat) (to : Int) (u d : Bool) : Bool := (((((strE ta && (mi == 0)) && (ma == 0)) && (addI n1 n2 == 0)) && (to == 0)) && u) && d
def eAt (e0 e1 e2 e3 e4 : Bool) : Nat → Bool
  | 0 => e0
  | 1 => e1
  | 2 => e2
  | 3 => e3
  | _ => e4
def emOk (kind : Int) (e : Nat → Bool) : Bool := decide (∀ k : Nat, k < 5 → ((((k : Int) != kind)) && !(e k)) = false)
theorem emOk_no {kind : Int} {e : Nat → Bool} (k : Nat) (h : k < 5) (hb : ((((k : Int) != kind)) && !(e k)) = true) : emOk kind e = false := decide_eq_false fun hh => by rw [hh k h] at hb; cases hb
def emHyp (P : Program) (agg : BinOp → TypeId → Array Value → Array Value → Option Value) (w : World) (u d ok : Bool) (B : List Blk) : Hyp :=
  ⟨⟨P, [], agg, callTab [(188, .v (.bool u)), (193, .v (.bool d))], 212, litIn []⟩, w, fun _ => True, 0, [], fun id => match Nat.beq id 0 with
    | true => some fun _ => .br ok (.done .normal ⟨[], B⟩) (.done .ret ⟨mkF [2] [.v (.bool false)], B⟩)
    | false => none, litIn [199], fun _ => none⟩
def cemptyB (o : Ob) : Bool := emOk o.kind (eAt (emW o.w.replicas o.w.cpu o.w.mem o.w.labels.l.length o.w.select.l.length o.w.tolerate.l.length o.w.warm)
  (emP o.p.owner o.p.node o.p.phase o.p.since o.p.cpu o.p.mem o.p.labels.l.length o.p.select.l.length o.p.tolerate.l.length o.p.warm)
  (emN o.n.group o.n.cpu o.n.mem o.n.labels.l.length o.n.taints.l.length o.n.since o.n.closed)
  (emG o.g.min o.g.max o.g.target o.g.cpu o.g.mem o.g.labels.l.length o.g.taints.l.length o.g.priority)
  (ceH o.h.target o.h.min o.h.max o.h.metrics.l.length o.h.past.l.length o.h.tolerance (cnoL o.h.up.window o.h.up.pick o.h.up.policies.l.length) (cnoL o.h.down.window o.h.down.pick o.h.down.policies.l.length)))
set_option maxRecDepth 100000 in
theorem emloop (w : World) (kind : Int) (u d e0 e1 e2 e3 e4 : Bool) (cs : List Value) (B1 B2 B3 B4 B5 B6 : Blk) (h0 : cs[0]? = some (.int .i64 kind)) :
    LoopSpec (emHyp Try.prog aggR w u d (emOk kind (eAt e0 e1 e2 e3 e4)) [⟨true, 56, cs⟩, B1, B2, B3, B4, B5, B6, ⟨true, 4, [.bool e0, .bool e1, .bool e2, .bool e3, .bool e4]⟩]) (fun _ => [198, 196, 197, 1, 2]) (0, .loop (loopBody Try.f45 0), [some (.v (.int .i64 0)), some (.s 7 0 5 5), some (.v (.int .i64 5)), some (.p 0 0), some (.v (.bool false))], [⟨true, 56, cs⟩, B1, B2, B3, B4, B5, B6, ⟨true, 4, [.bool e0, .bool e1, .bool e2, .bool e3, .bool e4]⟩]) := by
  obtain ⟨cs', rfl⟩ : ∃ cs', cs = .int .i64 kind :: cs' := by
    cases cs with
    | nil => cases h0
    | cons x r => simp only [List.getElem?_cons_zero, Option.some.injEq] at h0; exact ⟨r, by rw [h0]⟩
  refine px_loop (H := emHyp Try.prog aggR w u d (emOk kind (eAt e0 e1 e2 e3 e4)) [⟨true, 56, .int .i64 kind :: cs'⟩, B1, B2, B3, B4, B5, B6, ⟨true, 4, [.bool e0, .bool e1, .bool e2, .bool e3, .bool e4]⟩]) (K := .i64) aggR_ok (fun _ _ _ _ h => h) (by kernel_rfl) rfl (fun _ => [198, 196, 197, 1, 2]) (kx := []) (kr := [2]) rfl 5 8 (fun k => ∀ i : Nat, i < 5 → i < k → ((((i : Int) != kind)) && !(eAt e0 e1 e2 e3 e4 i)) = false) (fun i h hi => absurd hi (Nat.not_lt_zero _)) (fun _ => [.s 7 0 5 5, .v (.int .i64 5), .p 0 0, .v (.bool false)])
    (fun _ => [⟨true, 56, .int .i64 kind :: cs'⟩, B1, B2, B3, B4, B5, B6, ⟨true, 4, [.bool e0, .bool e1, .bool e2, .bool e3, .bool e4]⟩]) (fun _ => none) (fun _ => callTab []) (fun _ => litIn []) (fun _ _ => none)
    (fun _ _ => rfl) (fun _ _ => rfl) (fun k x hx => by cases hx) (Nat.zero_le _) ?_
  intro k hk hJ
  have fin : ∀ k : Nat, k < 5 → (∀ i : Nat, i < 5 → i < k → ((((i : Int) != kind)) && !(eAt e0 e1 e2 e3 e4 i)) = false) → ((((k : Int) != kind)) && !(eAt e0 e1 e2 e3 e4 k)) = false → ∀ i : Nat, i < 5 → i < k + 1 → ((((i : Int) != kind)) && !(eAt e0 e1 e2 e3 e4 i)) = false := by
    intro k _ hJ hb i h hi
    rcases Nat.lt_or_eq_of_le (Nat.le_of_lt_succ hi) with h1 | h1
    · exact hJ i h h1
    · subst h1; exact hb
  rcases k with _ | _ | _ | _ | _ | _ | k
  · refine ⟨.br ((((0 : Nat) : Int) != kind) && !e0) (.ret [some (.v (.bool false))] [⟨true, 56, .int .i64 kind :: cs'⟩, B1, B2, B3, B4, B5, B6, ⟨true, 4, [.bool e0, .bool e1, .bool e2, .bool e3, .bool e4]⟩]) (.norm [some (.v (.int .i64 (IntKind.i64.wrap (((0 : Nat) : Int) + 1)))), some (.s 7 0 5 5), some (.v (.int .i64 5)), some (.p 0 0), some (.v (.bool false))] [⟨true, 56, .int .i64 kind :: cs'⟩, B1, B2, B3, B4, B5, B6, ⟨true, 4, [.bool e0, .bool e1, .bool e2, .bool e3, .bool e4]⟩]), ⟨[], [], []⟩, by kernel_rfl, ⟨fun x hx => (by cases hx), fun x hx => (by cases hx), fun x hx => (by cases hx)⟩,
      ⟨fun hb => ⟨[.v (.bool false)], rfl, rfl, fun Q hQ => hQ.2 (emOk_no 0 (by decide) hb)⟩, fun hb => ⟨by decide, fin 0 (by decide) hJ hb, by rw [wrap_add 0 (by decide)]; rfl, rfl⟩⟩⟩
  · refine ⟨.br ((((1 : Nat) : Int) != kind) && !e1) (.ret [some (.v (.bool false))] [⟨true, 56, .int .i64 kind :: cs'⟩, B1, B2, B3, B4, B5, B6, ⟨true, 4, [.bool e0, .bool e1, .bool e2, .bool e3, .bool e4]⟩]) (.norm [some (.v (.int .i64 (IntKind.i64.wrap (((1 : Nat) : Int) + 1)))), some (.s 7 0 5 5), some (.v (.int .i64 5)), some (.p 0 0), some (.v (.bool false))] [⟨true, 56, .int .i64 kind :: cs'⟩, B1, B2, B3, B4, B5, B6, ⟨true, 4, [.bool e0, .bool e1, .bool e2, .bool e3, .bool e4]⟩]), ⟨[], [], []⟩, by kernel_rfl, ⟨fun x hx => (by cases hx), fun x hx => (by cases hx), fun x hx => (by cases hx)⟩,
      ⟨fun hb => ⟨[.v (.bool false)], rfl, rfl, fun Q hQ => hQ.2 (emOk_no 1 (by decide) hb)⟩, fun hb => ⟨by decide, fin 1 (by decide) hJ hb, by rw [wrap_add 1 (by decide)]; rfl, rfl⟩⟩⟩
  · refine ⟨.br ((((2 : Nat) : Int) != kind) && !e2) (.ret [some (.v (.bool false))] [⟨true, 56, .int .i64 kind :: cs'⟩, B1, B2, B3, B4, B5, B6, ⟨true, 4, [.bool e0, .bool e1, .bool e2, .bool e3, .bool e4]⟩]) (.norm [some (.v (.int .i64 (IntKind.i64.wrap (((2 : Nat) : Int) + 1)))), some (.s 7 0 5 5), some (.v (.int .i64 5)), some (.p 0 0), some (.v (.bool false))] [⟨true, 56, .int .i64 kind :: cs'⟩, B1, B2, B3, B4, B5, B6, ⟨true, 4, [.bool e0, .bool e1, .bool e2, .bool e3, .bool e4]⟩]), ⟨[], [], []⟩, by kernel_rfl, ⟨fun x hx => (by cases hx), fun x hx => (by cases hx), fun x hx => (by cases hx)⟩,
      ⟨fun hb => ⟨[.v (.bool false)], rfl, rfl, fun Q hQ => hQ.2 (emOk_no 2 (by decide) hb)⟩, fun hb => ⟨by decide, fin 2 (by decide) hJ hb, by rw [wrap_add 2 (by decide)]; rfl, rfl⟩⟩⟩
  · refine ⟨.br ((((3 : Nat) : Int) != kind) && !e3) (.ret [some (.v (.bool false))] [⟨true, 56, .int .i64 kind :: cs'⟩, B1, B2, B3, B4, B5, B6, ⟨true, 4, [.bool e0, .bool e1, .bool e2, .bool e3, .bool e4]⟩]) (.norm [some (.v (.int .i64 (IntKind.i64.wrap (((3 : Nat) : Int) + 1)))), some (.s 7 0 5 5), some (.v (.int .i64 5)), some (.p 0 0), some (.v (.bool false))] [⟨true, 56, .int .i64 kind :: cs'⟩, B1, B2, B3, B4, B5, B6, ⟨true, 4, [.bool e0, .bool e1, .bool e2, .bool e3, .bool e4]⟩]), ⟨[], [], []⟩, by kernel_rfl, ⟨fun x hx => (by cases hx), fun x hx => (by cases hx), fun x hx => (by cases hx)⟩,
      ⟨fun hb => ⟨[.v (.bool false)], rfl, rfl, fun Q hQ => hQ.2 (emOk_no 3 (by decide) hb)⟩, fun hb => ⟨by decide, fin 3 (by decide) hJ hb, by rw [wrap_add 3 (by decide)]; rfl, rfl⟩⟩⟩
  · refine ⟨.br ((((4 : Nat) : Int) != kind) && !e4) (.ret [some (.v (.bool false))] [⟨true, 56, .int .i64 kind :: cs'⟩, B1, B2, B3, B4, B5, B6, ⟨true, 4, [.bool e0, .bool e1, .bool e2, .bool e3, .bool e4]⟩]) (.norm [some (.v (.int .i64 (IntKind.i64.wrap (((4 : Nat) : Int) + 1)))), some (.s 7 0 5 5), some (.v (.int .i64 5)), some (.p 0 0), some (.v (.bool false))] [⟨true, 56, .int .i64 kind :: cs'⟩, B1, B2, B3, B4, B5, B6, ⟨true, 4, [.bool e0, .bool e1, .bool e2, .bool e3, .bool e4]⟩]), ⟨[], [], []⟩, by kernel_rfl, ⟨fun x hx => (by cases hx), fun x hx => (by cases hx), fun x hx => (by cases hx)⟩,
      ⟨fun hb => ⟨[.v (.bool false)], rfl, rfl, fun Q hQ => hQ.2 (emOk_no 4 (by decide) hb)⟩, fun hb => ⟨by decide, fin 4 (by decide) hJ hb, by rw [wrap_add 4 (by decide)]; rfl, rfl⟩⟩⟩
  · refine ⟨.exit [] [⟨true, 56, .int .i64 kind :: cs'⟩, B1, B2, B3, B4, B5, B6, ⟨true, 4, [.bool e0, .bool e1, .bool e2, .bool e3, .bool e4]⟩], ⟨[], [], []⟩, by kernel_rfl, ⟨fun x hx => (by cases hx), fun x hx => (by cases hx), fun x hx => (by cases hx)⟩, [], rfl, rfl, fun Q hQ => ?_⟩
    exact hQ.1 (decide_eq_true fun i h => hJ i h h)
  · omega
structure ObSub (o : Ob) (W : World) : Prop where
  w : o.w.Ok W
  p : o.p.Ok W
  n : o.n.Ok W
  g : o.g.Ok W
  h : o.h.Ok W
set_option maxHeartbeats 4000000 in
set_option maxRecDepth 100000 in
theorem vempties_sub (o : Ob) (w : World) (ho : ObSub o w) : Calls Try.prog 45 #[.agg o.cells.toArray] w fun e w' => e = .returned (.bool (cemptyB o)) ∧ Below w.heap.size w w' := by
  obtain ⟨kind, name, version, ⟨w0, w1, w2, ⟨vw3, lw3⟩, ⟨vw4, lw4⟩, ⟨vw5, lw5⟩, w6⟩, ⟨p0, p1, p2, p3, p4, p5, ⟨vp6, lp6⟩, ⟨vp7, lp7⟩, ⟨vp8, lp8⟩, p9⟩, ⟨n0, n1, n2, ⟨vn3, ln3⟩, ⟨vn4, ln4⟩, n5, n6⟩, ⟨g0, g1, g2, g3, g4, ⟨vg5, lg5⟩, ⟨vg6, lg6⟩, g7⟩, ⟨h0, h1, h2, ⟨vh3, lh3⟩, h4, ⟨h5, h6, ⟨vh7, lh7⟩⟩, ⟨h8, h9, ⟨vh10, lh10⟩⟩, ⟨vh11, lh11⟩⟩⟩ := o
  obtain ⟨Aw3, cw3, rfl⟩ : ∃ A c, vw3 = .slice A lw3.length c := by obtain ⟨A, c, e, _⟩ := ho.w.labels.1; exact ⟨A, c, e⟩
  obtain ⟨Aw4, cw4, rfl⟩ : ∃ A c, vw4 = .slice A lw4.length c := by obtain ⟨A, c, e, _⟩ := ho.w.select.1; exact ⟨A, c, e⟩
  obtain ⟨Aw5, cw5, rfl⟩ : ∃ A c, vw5 = .slice A lw5.length c := by obtain ⟨A, c, e, _⟩ := ho.w.tolerate.1; exact ⟨A, c, e⟩
  obtain ⟨Ap6, cp6, rfl⟩ : ∃ A c, vp6 = .slice A lp6.length c := by obtain ⟨A, c, e, _⟩ := ho.p.labels.1; exact ⟨A, c, e⟩
  obtain ⟨Ap7, cp7, rfl⟩ : ∃ A c, vp7 = .slice A lp7.length c := by obtain ⟨A, c, e, _⟩ := ho.p.select.1; exact ⟨A, c, e⟩
  obtain ⟨Ap8, cp8, rfl⟩ : ∃ A c, vp8 = .slice A lp8.length c := by obtain ⟨A, c, e, _⟩ := ho.p.tolerate.1; exact ⟨A, c, e⟩
  obtain ⟨An3, cn3, rfl⟩ : ∃ A c, vn3 = .slice A ln3.length c := by obtain ⟨A, c, e, _⟩ := ho.n.labels.1; exact ⟨A, c, e⟩
  obtain ⟨An4, cn4, rfl⟩ : ∃ A c, vn4 = .slice A ln4.length c := by obtain ⟨A, c, e, _⟩ := ho.n.taints.1; exact ⟨A, c, e⟩
  obtain ⟨Ag5, cg5, rfl⟩ : ∃ A c, vg5 = .slice A lg5.length c := by obtain ⟨A, c, e, _⟩ := ho.g.labels.1; exact ⟨A, c, e⟩
  obtain ⟨Ag6, cg6, rfl⟩ : ∃ A c, vg6 = .slice A lg6.length c := by obtain ⟨A, c, e, _⟩ := ho.g.taints.1; exact ⟨A, c, e⟩
  obtain ⟨Ah3, ch3, rfl⟩ : ∃ A c, vh3 = .slice A lh3.length c := by obtain ⟨A, c, e, _⟩ := ho.h.metrics.1; exact ⟨A, c, e⟩
  obtain ⟨Ah7, ch7, rfl⟩ : ∃ A c, vh7 = .slice A lh7.length c := by obtain ⟨A, c, e, _⟩ := ho.h.up.policies.1; exact ⟨A, c, e⟩
  obtain ⟨Ah10, ch10, rfl⟩ : ∃ A c, vh10 = .slice A lh10.length c := by obtain ⟨A, c, e, _⟩ := ho.h.down.policies.1; exact ⟨A, c, e⟩
  obtain ⟨Ah11, ch11, rfl⟩ : ∃ A c, vh11 = .slice A lh11.length c := by obtain ⟨A, c, e, _⟩ := ho.h.past.1; exact ⟨A, c, e⟩
  refine px_calls (f := 45) (fn := Try.f45) (args := [.v (.agg (Ob.mk kind name version (⟨w0, w1, w2, ⟨.slice Aw3 lw3.length cw3, lw3⟩, ⟨.slice Aw4 lw4.length cw4, lw4⟩, ⟨.slice Aw5 lw5.length cw5, lw5⟩, w6⟩ : Wl) (⟨p0, p1, p2, p3, p4, p5, ⟨.slice Ap6 lp6.length cp6, lp6⟩, ⟨.slice Ap7 lp7.length cp7, lp7⟩, ⟨.slice Ap8 lp8.length cp8, lp8⟩, p9⟩ : Pd) (⟨n0, n1, n2, ⟨.slice An3 ln3.length cn3, ln3⟩, ⟨.slice An4 ln4.length cn4, ln4⟩, n5, n6⟩ : Nd) (⟨g0, g1, g2, g3, g4, ⟨.slice Ag5 lg5.length cg5, lg5⟩, ⟨.slice Ag6 lg6.length cg6, lg6⟩, g7⟩ : Gr) (⟨h0, h1, h2, ⟨.slice Ah3 lh3.length ch3, lh3⟩, h4, ⟨h5, h6, ⟨.slice Ah7 lh7.length ch7, lh7⟩⟩, ⟨h8, h9, ⟨.slice Ah10 lh10.length ch10, lh10⟩⟩, ⟨.slice Ah11 lh11.length ch11, lh11⟩⟩ : Hp)).cells.toArray)]) (B := []) (ρ0 := fun _ => (0, 0)) (H := emHyp Try.prog aggR w (cnoL h5 h6 lh7.length) (cnoL h8 h9 lh10.length) (emOk kind (eAt (emW w0 w1 w2 lw3.length lw4.length lw5.length w6) (emP p0 p1 p2 p3 p4 p5 lp6.length lp7.length lp8.length p9) (emN n0 n1 n2 ln3.length ln4.length n5 n6) (emG g0 g1 g2 g3 g4 lg5.length lg6.length g7) (ceH h0 h1 h2 lh3.length lh11.length h4 (cnoL h5 h6 lh7.length) (cnoL h8 h9 lh10.length)))) [⟨true, 56, [.int .i64 kind, .string name, .int .u64 version, .int .i64 w0, .int .i64 w1, .int .i64 w2, .slice Aw3 lw3.length cw3, .slice Aw4 lw4.length cw4, .slice Aw5 lw5.length cw5, .int .i64 w6, .string p0, .string p1, .int .i64 p2, .int .i64 p3, .int .i64 p4, .int .i64 p5, .slice Ap6 lp6.length cp6, .slice Ap7 lp7.length cp7, .slice Ap8 lp8.length cp8, .int .i64 p9, .string n0, .int .i64 n1, .int .i64 n2, .slice An3 ln3.length cn3, .slice An4 ln4.length cn4, .int .i64 n5, .bool n6, .int .i64 g0, .int .i64 g1, .int .i64 g2, .int .i64 g3, .int .i64 g4, .slice Ag5 lg5.length cg5, .slice Ag6 lg6.length cg6, .int .i64 g7, .string h0, .int .i64 h1, .int .i64 h2, .slice Ah3 lh3.length ch3, .int .i64 h4, .int .i64 h5, .int .i64 h6, .slice Ah7 lh7.length ch7, .int .i64 h8, .int .i64 h9, .slice Ah10 lh10.length ch10, .slice Ah11 lh11.length ch11]⟩, ⟨true, 54, [.string h0, .int .i64 h1, .int .i64 h2, .slice Ah3 lh3.length ch3, .int .i64 h4, .int .i64 h5, .int .i64 h6, .slice Ah7 lh7.length ch7, .int .i64 h8, .int .i64 h9, .slice Ah10 lh10.length ch10, .slice Ah11 lh11.length ch11]⟩, ⟨true, 47, [.int .i64 g0, .int .i64 g1, .int .i64 g2, .int .i64 g3, .int .i64 g4, .slice Ag5 lg5.length cg5, .slice Ag6 lg6.length cg6, .int .i64 g7]⟩, ⟨true, 45, [.string n0, .int .i64 n1, .int .i64 n2, .slice An3 ln3.length cn3, .slice An4 ln4.length cn4, .int .i64 n5, .bool n6]⟩, ⟨true, 43, [.string p0, .string p1, .int .i64 p2, .int .i64 p3, .int .i64 p4, .int .i64 p5, .slice Ap6 lp6.length cp6, .slice Ap7 lp7.length cp7, .slice Ap8 lp8.length cp8, .int .i64 p9]⟩, ⟨true, 41, [.int .i64 w0, .int .i64 w1, .int .i64 w2, .slice Aw3 lw3.length cw3, .slice Aw4 lw4.length cw4, .slice Aw5 lw5.length cw5, .int .i64 w6]⟩, ⟨true, 37, [.int .i64 0, .int .i64 0]⟩, ⟨true, 4, [ .bool (emW w0 w1 w2 lw3.length lw4.length lw5.length w6),  .bool (emP p0 p1 p2 p3 p4 p5 lp6.length lp7.length lp8.length p9), .bool (emN n0 n1 n2 ln3.length ln4.length n5 n6), .bool (emG g0 g1 g2 g3 g4 lg5.length lg6.length g7), .bool (ceH h0 h1 h2 lh3.length lh11.length h4 (cnoL h5 h6 lh7.length) (cnoL h8 h9 lh10.length))]⟩]) aggR_ok (fun _ _ _ _ h => h) (by kernel_rfl) Try.func45 rfl (by kernel_rfl) (by show (1 : Nat) ≤ 212; decide) rfl (by simp [SV.lt]) trivial (Nat.le_refl _) (fun i b hb => by simp at hb) (fun _ => [198, 196, 197, 1, 2])
    ⟨[.call 59 [.v (.agg #[.int .i64 h5, .int .i64 h6, .slice Ah7 lh7.length ch7])] (.v (.bool (cnoL h5 h6 lh7.length))), .call 59 [.v (.agg #[.int .i64 h8, .int .i64 h9, .slice Ah10 lh10.length ch10])] (.v (.bool (cnoL h8 h9 lh10.length)))],
      [(0, .loop (loopBody Try.f45 0), [some (.v (.int .i64 0)), some (.s 7 0 5 5), some (.v (.int .i64 5)), some (.p 0 0), some (.v (.bool false))], [⟨true, 56, [.int .i64 kind, .string name, .int .u64 version, .int .i64 w0, .int .i64 w1, .int .i64 w2, .slice Aw3 lw3.length cw3, .slice Aw4 lw4.length cw4, .slice Aw5 lw5.length cw5, .int .i64 w6, .string p0, .string p1, .int .i64 p2, .int .i64 p3, .int .i64 p4, .int .i64 p5, .slice Ap6 lp6.length cp6, .slice Ap7 lp7.length cp7, .slice Ap8 lp8.length cp8, .int .i64 p9, .string n0, .int .i64 n1, .int .i64 n2, .slice An3 ln3.length cn3, .slice An4 ln4.length cn4, .int .i64 n5, .bool n6, .int .i64 g0, .int .i64 g1, .int .i64 g2, .int .i64 g3, .int .i64 g4, .slice Ag5 lg5.length cg5, .slice Ag6 lg6.length cg6, .int .i64 g7, .string h0, .int .i64 h1, .int .i64 h2, .slice Ah3 lh3.length ch3, .int .i64 h4, .int .i64 h5, .int .i64 h6, .slice Ah7 lh7.length ch7, .int .i64 h8, .int .i64 h9, .slice Ah10 lh10.length ch10, .slice Ah11 lh11.length ch11]⟩, ⟨true, 54, [.string h0, .int .i64 h1, .int .i64 h2, .slice Ah3 lh3.length ch3, .int .i64 h4, .int .i64 h5, .int .i64 h6, .slice Ah7 lh7.length ch7, .int .i64 h8, .int .i64 h9, .slice Ah10 lh10.length ch10, .slice Ah11 lh11.length ch11]⟩, ⟨true, 47, [.int .i64 g0, .int .i64 g1, .int .i64 g2, .int .i64 g3, .int .i64 g4, .slice Ag5 lg5.length cg5, .slice Ag6 lg6.length cg6, .int .i64 g7]⟩, ⟨true, 45, [.string n0, .int .i64 n1, .int .i64 n2, .slice An3 ln3.length cn3, .slice An4 ln4.length cn4, .int .i64 n5, .bool n6]⟩, ⟨true, 43, [.string p0, .string p1, .int .i64 p2, .int .i64 p3, .int .i64 p4, .int .i64 p5, .slice Ap6 lp6.length cp6, .slice Ap7 lp7.length cp7, .slice Ap8 lp8.length cp8, .int .i64 p9]⟩, ⟨true, 41, [.int .i64 w0, .int .i64 w1, .int .i64 w2, .slice Aw3 lw3.length cw3, .slice Aw4 lw4.length cw4, .slice Aw5 lw5.length cw5, .int .i64 w6]⟩, ⟨true, 37, [.int .i64 0, .int .i64 0]⟩, ⟨true, 4, [ .bool (emW w0 w1 w2 lw3.length lw4.length lw5.length w6),  .bool (emP p0 p1 p2 p3 p4 p5 lp6.length lp7.length lp8.length p9), .bool (emN n0 n1 n2 ln3.length ln4.length n5 n6), .bool (emG g0 g1 g2 g3 g4 lg5.length lg6.length g7), .bool (ceH h0 h1 h2 lh3.length lh11.length h4 (cnoL h5 h6 lh7.length) (cnoL h8 h9 lh10.length))]⟩])], []⟩ [.v (pickV (emOk kind (eAt (emW w0 w1 w2 lw3.length lw4.length lw5.length w6) (emP p0 p1 p2 p3 p4 p5 lp6.length lp7.length lp8.length p9) (emN n0 n1 n2 ln3.length ln4.length n5 n6) (emG g0 g1 g2 g3 g4 lg5.length lg6.length g7) (ceH h0 h1 h2 lh3.length lh11.length h4 (cnoL h5 h6 lh7.length) (cnoL h8 h9 lh10.length)))) (.bool true) (.bool false))] (by kernel_rfl) ⟨?_, fun q hq => ?_, fun p hp => (by cases hp)⟩ (fun ρ w' _ hb => ⟨?_, hb⟩)
  · exact paid2_cons (fun ρ _ w1 hb => vnothing_any ⟨h5, h6, ⟨.slice Ah7 lh7.length ch7, lh7⟩⟩ w1 (ho.h.up.below hb)) (paid2_cons (fun ρ _ w1 hb => vnothing_any ⟨h8, h9, ⟨.slice Ah10 lh10.length ch10, lh10⟩⟩ w1 (ho.h.down.below hb)) paid2_nil)
  · rw [List.mem_singleton.1 hq]
    exact emloop w kind _ _ _ _ _ _ _ _ _ _ _ _ _ _ rfl
  · rw [res_bool]
    rfl
theorem vempties_any (o : Ob) (w : World) (ho : o.Ok w) : Calls Try.prog 45 #[.agg o.cells.toArray] w fun e w' => e = .returned (.bool (cemptyB o)) ∧ Below w.heap.size w w' := vempties_sub o w ⟨ho.w, ho.p, ho.n, ho.g, ho.h⟩
end Go.Proofs.Ytlhaiflebigdlaa
end
section
namespace Go.Proofs.Ytlhaiflebigdlaa
open Go.RowKit Go.Proofs.Mem
set_option linter.unusedVariables false
set_option linter.unusedSimpArgs false
def ckV (nm may em : Bool) : Value := pickV (!nm) (.int .i64 6) (pickV (!may || !em) (.int .i64 2) (.int .i64 0))
theorem ck_res {ρ : Nat → Nat × Nat} (name : ByteArray) (may em : Bool) : resVal ρ [.v (ckV (nmB name) may em)] = .int .i64 (errN name (may && em)) := by
  show (SV.v (ckV _ may em)).den ρ = _
  unfold ckV errN SV.den
  rw [pickV_eq, pickV_eq]
  cases nmB name <;> cases may <;> cases em <;> rfl
def cpodB (x : Pd) : Bool := !(cpod1 x) && cpod2 x
set_option maxRecDepth 100000 in
theorem vcheck_0 (o : Ob) (w : World) (ho : o.Ok w) (hk : o.kind = 0) : Calls Try.prog 23 #[.agg o.cells.toArray] w fun e w' => e = .returned (.int .i64 (errN o.name (cworkB o.w && cemptyB o))) ∧ Below w.heap.size w w' := by
  obtain ⟨kind, name, version, ⟨w0, w1, w2, ⟨vw3, lw3⟩, ⟨vw4, lw4⟩, ⟨vw5, lw5⟩, w6⟩, ⟨p0, p1, p2, p3, p4, p5, ⟨vp6, lp6⟩, ⟨vp7, lp7⟩, ⟨vp8, lp8⟩, p9⟩, ⟨n0, n1, n2, ⟨vn3, ln3⟩, ⟨vn4, ln4⟩, n5, n6⟩, ⟨g0, g1, g2, g3, g4, ⟨vg5, lg5⟩, ⟨vg6, lg6⟩, g7⟩, ⟨h0, h1, h2, ⟨vh3, lh3⟩, h4, ⟨h5, h6, ⟨vh7, lh7⟩⟩, ⟨h8, h9, ⟨vh10, lh10⟩⟩, ⟨vh11, lh11⟩⟩⟩ := o
  obtain ⟨Aw3, cw3, rfl⟩ : ∃ A c, vw3 = .slice A lw3.length c := by obtain ⟨A, c, e, _⟩ := ho.w.labels.1; exact ⟨A, c, e⟩
  obtain ⟨Aw4, cw4, rfl⟩ : ∃ A c, vw4 = .slice A lw4.length c := by obtain ⟨A, c, e, _⟩ := ho.w.select.1; exact ⟨A, c, e⟩
  obtain ⟨Aw5, cw5, rfl⟩ : ∃ A c, vw5 = .slice A lw5.length c := by obtain ⟨A, c, e, _⟩ := ho.w.tolerate.1; exact ⟨A, c, e⟩
  obtain ⟨Ap6, cp6, rfl⟩ : ∃ A c, vp6 = .slice A lp6.length c := by obtain ⟨A, c, e, _⟩ := ho.p.labels.1; exact ⟨A, c, e⟩
  obtain ⟨Ap7, cp7, rfl⟩ : ∃ A c, vp7 = .slice A lp7.length c := by obtain ⟨A, c, e, _⟩ := ho.p.select.1; exact ⟨A, c, e⟩
  obtain ⟨Ap8, cp8, rfl⟩ : ∃ A c, vp8 = .slice A lp8.length c := by obtain ⟨A, c, e, _⟩ := ho.p.tolerate.1; exact ⟨A, c, e⟩
  obtain ⟨An3, cn3, rfl⟩ : ∃ A c, vn3 = .slice A ln3.length c := by obtain ⟨A, c, e, _⟩ := ho.n.labels.1; exact ⟨A, c, e⟩
  obtain ⟨An4, cn4, rfl⟩ : ∃ A c, vn4 = .slice A ln4.length c := by obtain ⟨A, c, e, _⟩ := ho.n.taints.1; exact ⟨A, c, e⟩
  obtain ⟨Ag5, cg5, rfl⟩ : ∃ A c, vg5 = .slice A lg5.length c := by obtain ⟨A, c, e, _⟩ := ho.g.labels.1; exact ⟨A, c, e⟩
  obtain ⟨Ag6, cg6, rfl⟩ : ∃ A c, vg6 = .slice A lg6.length c := by obtain ⟨A, c, e, _⟩ := ho.g.taints.1; exact ⟨A, c, e⟩
  obtain ⟨Ah3, ch3, rfl⟩ : ∃ A c, vh3 = .slice A lh3.length c := by obtain ⟨A, c, e, _⟩ := ho.h.metrics.1; exact ⟨A, c, e⟩
  obtain ⟨Ah7, ch7, rfl⟩ : ∃ A c, vh7 = .slice A lh7.length c := by obtain ⟨A, c, e, _⟩ := ho.h.up.policies.1; exact ⟨A, c, e⟩
  obtain ⟨Ah10, ch10, rfl⟩ : ∃ A c, vh10 = .slice A lh10.length c := by obtain ⟨A, c, e, _⟩ := ho.h.down.policies.1; exact ⟨A, c, e⟩
  obtain ⟨Ah11, ch11, rfl⟩ : ∃ A c, vh11 = .slice A lh11.length c := by obtain ⟨A, c, e, _⟩ := ho.h.past.1; exact ⟨A, c, e⟩
  simp only at hk
  subst hk
  refine px_plain (args := [.agg (Ob.mk 0 name version (⟨w0, w1, w2, ⟨.slice Aw3 lw3.length cw3, lw3⟩, ⟨.slice Aw4 lw4.length cw4, lw4⟩, ⟨.slice Aw5 lw5.length cw5, lw5⟩, w6⟩ : Wl) (⟨p0, p1, p2, p3, p4, p5, ⟨.slice Ap6 lp6.length cp6, lp6⟩, ⟨.slice Ap7 lp7.length cp7, lp7⟩, ⟨.slice Ap8 lp8.length cp8, lp8⟩, p9⟩ : Pd) (⟨n0, n1, n2, ⟨.slice An3 ln3.length cn3, ln3⟩, ⟨.slice An4 ln4.length cn4, ln4⟩, n5, n6⟩ : Nd) (⟨g0, g1, g2, g3, g4, ⟨.slice Ag5 lg5.length cg5, lg5⟩, ⟨.slice Ag6 lg6.length cg6, lg6⟩, g7⟩ : Gr) (⟨h0, h1, h2, ⟨.slice Ah3 lh3.length ch3, lh3⟩, h4, ⟨h5, h6, ⟨.slice Ah7 lh7.length ch7, lh7⟩⟩, ⟨h8, h9, ⟨.slice Ah10 lh10.length ch10, lh10⟩⟩, ⟨.slice Ah11 lh11.length ch11, lh11⟩⟩ : Hp)).cells.toArray]) (callTab [(10, .v (.bool (cworkB (⟨w0, w1, w2, ⟨.slice Aw3 lw3.length cw3, lw3⟩, ⟨.slice Aw4 lw4.length cw4, lw4⟩, ⟨.slice Aw5 lw5.length cw5, lw5⟩, w6⟩ : Wl)))), (34, .v (.bool (nmB name))), (41, .v (.bool (cemptyB (Ob.mk 0 name version (⟨w0, w1, w2, ⟨.slice Aw3 lw3.length cw3, lw3⟩, ⟨.slice Aw4 lw4.length cw4, lw4⟩, ⟨.slice Aw5 lw5.length cw5, lw5⟩, w6⟩ : Wl) (⟨p0, p1, p2, p3, p4, p5, ⟨.slice Ap6 lp6.length cp6, lp6⟩, ⟨.slice Ap7 lp7.length cp7, lp7⟩, ⟨.slice Ap8 lp8.length cp8, lp8⟩, p9⟩ : Pd) (⟨n0, n1, n2, ⟨.slice An3 ln3.length cn3, ln3⟩, ⟨.slice An4 ln4.length cn4, ln4⟩, n5, n6⟩ : Nd) (⟨g0, g1, g2, g3, g4, ⟨.slice Ag5 lg5.length cg5, lg5⟩, ⟨.slice Ag6 lg6.length cg6, lg6⟩, g7⟩ : Gr) (⟨h0, h1, h2, ⟨.slice Ah3 lh3.length ch3, lh3⟩, h4, ⟨h5, h6, ⟨.slice Ah7 lh7.length ch7, lh7⟩⟩, ⟨h8, h9, ⟨.slice Ah10 lh10.length ch10, lh10⟩⟩, ⟨.slice Ah11 lh11.length ch11, lh11⟩⟩ : Hp)))))]) (litIn [6, 11, 16, 21, 26]) 44 Try.func23 (by kernel_rfl) (by kernel_rfl) (by simp)
    [.call 39 [.v (.agg (⟨w0, w1, w2, ⟨.slice Aw3 lw3.length cw3, lw3⟩, ⟨.slice Aw4 lw4.length cw4, lw4⟩, ⟨.slice Aw5 lw5.length cw5, lw5⟩, w6⟩ : Wl).cells.toArray)] (.v (.bool (cworkB (⟨w0, w1, w2, ⟨.slice Aw3 lw3.length cw3, lw3⟩, ⟨.slice Aw4 lw4.length cw4, lw4⟩, ⟨.slice Aw5 lw5.length cw5, lw5⟩, w6⟩ : Wl)))), .call 44 [.v (.string name)] (.v (.bool (nmB name))), .call 45 [.v (.agg (Ob.mk 0 name version (⟨w0, w1, w2, ⟨.slice Aw3 lw3.length cw3, lw3⟩, ⟨.slice Aw4 lw4.length cw4, lw4⟩, ⟨.slice Aw5 lw5.length cw5, lw5⟩, w6⟩ : Wl) (⟨p0, p1, p2, p3, p4, p5, ⟨.slice Ap6 lp6.length cp6, lp6⟩, ⟨.slice Ap7 lp7.length cp7, lp7⟩, ⟨.slice Ap8 lp8.length cp8, lp8⟩, p9⟩ : Pd) (⟨n0, n1, n2, ⟨.slice An3 ln3.length cn3, ln3⟩, ⟨.slice An4 ln4.length cn4, ln4⟩, n5, n6⟩ : Nd) (⟨g0, g1, g2, g3, g4, ⟨.slice Ag5 lg5.length cg5, lg5⟩, ⟨.slice Ag6 lg6.length cg6, lg6⟩, g7⟩ : Gr) (⟨h0, h1, h2, ⟨.slice Ah3 lh3.length ch3, lh3⟩, h4, ⟨h5, h6, ⟨.slice Ah7 lh7.length ch7, lh7⟩⟩, ⟨h8, h9, ⟨.slice Ah10 lh10.length ch10, lh10⟩⟩, ⟨.slice Ah11 lh11.length ch11, lh11⟩⟩ : Hp)).cells.toArray)] (.v (.bool (cemptyB (Ob.mk 0 name version (⟨w0, w1, w2, ⟨.slice Aw3 lw3.length cw3, lw3⟩, ⟨.slice Aw4 lw4.length cw4, lw4⟩, ⟨.slice Aw5 lw5.length cw5, lw5⟩, w6⟩ : Wl) (⟨p0, p1, p2, p3, p4, p5, ⟨.slice Ap6 lp6.length cp6, lp6⟩, ⟨.slice Ap7 lp7.length cp7, lp7⟩, ⟨.slice Ap8 lp8.length cp8, lp8⟩, p9⟩ : Pd) (⟨n0, n1, n2, ⟨.slice An3 ln3.length cn3, ln3⟩, ⟨.slice An4 ln4.length cn4, ln4⟩, n5, n6⟩ : Nd) (⟨g0, g1, g2, g3, g4, ⟨.slice Ag5 lg5.length cg5, lg5⟩, ⟨.slice Ag6 lg6.length cg6, lg6⟩, g7⟩ : Gr) (⟨h0, h1, h2, ⟨.slice Ah3 lh3.length ch3, lh3⟩, h4, ⟨h5, h6, ⟨.slice Ah7 lh7.length ch7, lh7⟩⟩, ⟨h8, h9, ⟨.slice Ah10 lh10.length ch10, lh10⟩⟩, ⟨.slice Ah11 lh11.length ch11, lh11⟩⟩ : Hp)))))] [] [.v (ckV (nmB name) (cworkB (⟨w0, w1, w2, ⟨.slice Aw3 lw3.length cw3, lw3⟩, ⟨.slice Aw4 lw4.length cw4, lw4⟩, ⟨.slice Aw5 lw5.length cw5, lw5⟩, w6⟩ : Wl)) (cemptyB (Ob.mk 0 name version (⟨w0, w1, w2, ⟨.slice Aw3 lw3.length cw3, lw3⟩, ⟨.slice Aw4 lw4.length cw4, lw4⟩, ⟨.slice Aw5 lw5.length cw5, lw5⟩, w6⟩ : Wl) (⟨p0, p1, p2, p3, p4, p5, ⟨.slice Ap6 lp6.length cp6, lp6⟩, ⟨.slice Ap7 lp7.length cp7, lp7⟩, ⟨.slice Ap8 lp8.length cp8, lp8⟩, p9⟩ : Pd) (⟨n0, n1, n2, ⟨.slice An3 ln3.length cn3, ln3⟩, ⟨.slice An4 ln4.length cn4, ln4⟩, n5, n6⟩ : Nd) (⟨g0, g1, g2, g3, g4, ⟨.slice Ag5 lg5.length cg5, lg5⟩, ⟨.slice Ag6 lg6.length cg6, lg6⟩, g7⟩ : Gr) (⟨h0, h1, h2, ⟨.slice Ah3 lh3.length ch3, lh3⟩, h4, ⟨h5, h6, ⟨.slice Ah7 lh7.length ch7, lh7⟩⟩, ⟨h8, h9, ⟨.slice Ah10 lh10.length ch10, lh10⟩⟩, ⟨.slice Ah11 lh11.length ch11, lh11⟩⟩ : Hp))))] (by kernel_rfl) (fun p hp => by cases hp) ?_ (fun ρ w' hb => ⟨by rw [ck_res], hb⟩)
  exact paid2_cons (fun ρ _ w1 hb => vwork_any _ w1 (ho.w.below hb)) (paid2_cons (fun ρ _ w1 hb => (lname_any _ w1 (wfs_max ho.name)).mono fun e w' ⟨h1, h2⟩ => ⟨h1, h2 ▸ Below.refl _ _⟩) (paid2_cons (fun ρ _ w1 hb => vempties_any _ w1 (ho.below hb)) paid2_nil))
set_option maxRecDepth 100000 in
theorem vcheck_1 (o : Ob) (w : World) (ho : o.Ok w) (hk : o.kind = 1) : Calls Try.prog 23 #[.agg o.cells.toArray] w fun e w' => e = .returned (.int .i64 (errN o.name (cpodB o.p && cemptyB o))) ∧ Below w.heap.size w w' := by
  obtain ⟨kind, name, version, ⟨w0, w1, w2, ⟨vw3, lw3⟩, ⟨vw4, lw4⟩, ⟨vw5, lw5⟩, w6⟩, ⟨p0, p1, p2, p3, p4, p5, ⟨vp6, lp6⟩, ⟨vp7, lp7⟩, ⟨vp8, lp8⟩, p9⟩, ⟨n0, n1, n2, ⟨vn3, ln3⟩, ⟨vn4, ln4⟩, n5, n6⟩, ⟨g0, g1, g2, g3, g4, ⟨vg5, lg5⟩, ⟨vg6, lg6⟩, g7⟩, ⟨h0, h1, h2, ⟨vh3, lh3⟩, h4, ⟨h5, h6, ⟨vh7, lh7⟩⟩, ⟨h8, h9, ⟨vh10, lh10⟩⟩, ⟨vh11, lh11⟩⟩⟩ := o
  obtain ⟨Aw3, cw3, rfl⟩ : ∃ A c, vw3 = .slice A lw3.length c := by obtain ⟨A, c, e, _⟩ := ho.w.labels.1; exact ⟨A, c, e⟩
  obtain ⟨Aw4, cw4, rfl⟩ : ∃ A c, vw4 = .slice A lw4.length c := by obtain ⟨A, c, e, _⟩ := ho.w.select.1; exact ⟨A, c, e⟩
  obtain ⟨Aw5, cw5, rfl⟩ : ∃ A c, vw5 = .slice A lw5.length c := by obtain ⟨A, c, e, _⟩ := ho.w.tolerate.1; exact ⟨A, c, e⟩
  obtain ⟨Ap6, cp6, rfl⟩ : ∃ A c, vp6 = .slice A lp6.length c := by obtain ⟨A, c, e, _⟩ := ho.p.labels.1; exact ⟨A, c, e⟩
  obtain ⟨Ap7, cp7, rfl⟩ : ∃ A c, vp7 = .slice A lp7.length c := by obtain ⟨A, c, e, _⟩ := ho.p.select.1; exact ⟨A, c, e⟩
  obtain ⟨Ap8, cp8, rfl⟩ : ∃ A c, vp8 = .slice A lp8.length c := by obtain ⟨A, c, e, _⟩ := ho.p.tolerate.1; exact ⟨A, c, e⟩
  obtain ⟨An3, cn3, rfl⟩ : ∃ A c, vn3 = .slice A ln3.length c := by obtain ⟨A, c, e, _⟩ := ho.n.labels.1; exact ⟨A, c, e⟩
  obtain ⟨An4, cn4, rfl⟩ : ∃ A c, vn4 = .slice A ln4.length c := by obtain ⟨A, c, e, _⟩ := ho.n.taints.1; exact ⟨A, c, e⟩
  obtain ⟨Ag5, cg5, rfl⟩ : ∃ A c, vg5 = .slice A lg5.length c := by obtain ⟨A, c, e, _⟩ := ho.g.labels.1; exact ⟨A, c, e⟩
  obtain ⟨Ag6, cg6, rfl⟩ : ∃ A c, vg6 = .slice A lg6.length c := by obtain ⟨A, c, e, _⟩ := ho.g.taints.1; exact ⟨A, c, e⟩
  obtain ⟨Ah3, ch3, rfl⟩ : ∃ A c, vh3 = .slice A lh3.length c := by obtain ⟨A, c, e, _⟩ := ho.h.metrics.1; exact ⟨A, c, e⟩
  obtain ⟨Ah7, ch7, rfl⟩ : ∃ A c, vh7 = .slice A lh7.length c := by obtain ⟨A, c, e, _⟩ := ho.h.up.policies.1; exact ⟨A, c, e⟩
  obtain ⟨Ah10, ch10, rfl⟩ : ∃ A c, vh10 = .slice A lh10.length c := by obtain ⟨A, c, e, _⟩ := ho.h.down.policies.1; exact ⟨A, c, e⟩
  obtain ⟨Ah11, ch11, rfl⟩ : ∃ A c, vh11 = .slice A lh11.length c := by obtain ⟨A, c, e, _⟩ := ho.h.past.1; exact ⟨A, c, e⟩
  simp only at hk
  subst hk
  refine px_plain (args := [.agg (Ob.mk 1 name version (⟨w0, w1, w2, ⟨.slice Aw3 lw3.length cw3, lw3⟩, ⟨.slice Aw4 lw4.length cw4, lw4⟩, ⟨.slice Aw5 lw5.length cw5, lw5⟩, w6⟩ : Wl) (⟨p0, p1, p2, p3, p4, p5, ⟨.slice Ap6 lp6.length cp6, lp6⟩, ⟨.slice Ap7 lp7.length cp7, lp7⟩, ⟨.slice Ap8 lp8.length cp8, lp8⟩, p9⟩ : Pd) (⟨n0, n1, n2, ⟨.slice An3 ln3.length cn3, ln3⟩, ⟨.slice An4 ln4.length cn4, ln4⟩, n5, n6⟩ : Nd) (⟨g0, g1, g2, g3, g4, ⟨.slice Ag5 lg5.length cg5, lg5⟩, ⟨.slice Ag6 lg6.length cg6, lg6⟩, g7⟩ : Gr) (⟨h0, h1, h2, ⟨.slice Ah3 lh3.length ch3, lh3⟩, h4, ⟨h5, h6, ⟨.slice Ah7 lh7.length ch7, lh7⟩⟩, ⟨h8, h9, ⟨.slice Ah10 lh10.length ch10, lh10⟩⟩, ⟨.slice Ah11 lh11.length ch11, lh11⟩⟩ : Hp)).cells.toArray]) (callTab [(15, .v (.bool (cpodB (⟨p0, p1, p2, p3, p4, p5, ⟨.slice Ap6 lp6.length cp6, lp6⟩, ⟨.slice Ap7 lp7.length cp7, lp7⟩, ⟨.slice Ap8 lp8.length cp8, lp8⟩, p9⟩ : Pd)))), (34, .v (.bool (nmB name))), (41, .v (.bool (cemptyB (Ob.mk 1 name version (⟨w0, w1, w2, ⟨.slice Aw3 lw3.length cw3, lw3⟩, ⟨.slice Aw4 lw4.length cw4, lw4⟩, ⟨.slice Aw5 lw5.length cw5, lw5⟩, w6⟩ : Wl) (⟨p0, p1, p2, p3, p4, p5, ⟨.slice Ap6 lp6.length cp6, lp6⟩, ⟨.slice Ap7 lp7.length cp7, lp7⟩, ⟨.slice Ap8 lp8.length cp8, lp8⟩, p9⟩ : Pd) (⟨n0, n1, n2, ⟨.slice An3 ln3.length cn3, ln3⟩, ⟨.slice An4 ln4.length cn4, ln4⟩, n5, n6⟩ : Nd) (⟨g0, g1, g2, g3, g4, ⟨.slice Ag5 lg5.length cg5, lg5⟩, ⟨.slice Ag6 lg6.length cg6, lg6⟩, g7⟩ : Gr) (⟨h0, h1, h2, ⟨.slice Ah3 lh3.length ch3, lh3⟩, h4, ⟨h5, h6, ⟨.slice Ah7 lh7.length ch7, lh7⟩⟩, ⟨h8, h9, ⟨.slice Ah10 lh10.length ch10, lh10⟩⟩, ⟨.slice Ah11 lh11.length ch11, lh11⟩⟩ : Hp)))))]) (litIn [6, 11, 16, 21, 26]) 44 Try.func23 (by kernel_rfl) (by kernel_rfl) (by simp)
    [.call 40 [.v (.agg (⟨p0, p1, p2, p3, p4, p5, ⟨.slice Ap6 lp6.length cp6, lp6⟩, ⟨.slice Ap7 lp7.length cp7, lp7⟩, ⟨.slice Ap8 lp8.length cp8, lp8⟩, p9⟩ : Pd).cells.toArray)] (.v (.bool (cpodB (⟨p0, p1, p2, p3, p4, p5, ⟨.slice Ap6 lp6.length cp6, lp6⟩, ⟨.slice Ap7 lp7.length cp7, lp7⟩, ⟨.slice Ap8 lp8.length cp8, lp8⟩, p9⟩ : Pd)))), .call 44 [.v (.string name)] (.v (.bool (nmB name))), .call 45 [.v (.agg (Ob.mk 1 name version (⟨w0, w1, w2, ⟨.slice Aw3 lw3.length cw3, lw3⟩, ⟨.slice Aw4 lw4.length cw4, lw4⟩, ⟨.slice Aw5 lw5.length cw5, lw5⟩, w6⟩ : Wl) (⟨p0, p1, p2, p3, p4, p5, ⟨.slice Ap6 lp6.length cp6, lp6⟩, ⟨.slice Ap7 lp7.length cp7, lp7⟩, ⟨.slice Ap8 lp8.length cp8, lp8⟩, p9⟩ : Pd) (⟨n0, n1, n2, ⟨.slice An3 ln3.length cn3, ln3⟩, ⟨.slice An4 ln4.length cn4, ln4⟩, n5, n6⟩ : Nd) (⟨g0, g1, g2, g3, g4, ⟨.slice Ag5 lg5.length cg5, lg5⟩, ⟨.slice Ag6 lg6.length cg6, lg6⟩, g7⟩ : Gr) (⟨h0, h1, h2, ⟨.slice Ah3 lh3.length ch3, lh3⟩, h4, ⟨h5, h6, ⟨.slice Ah7 lh7.length ch7, lh7⟩⟩, ⟨h8, h9, ⟨.slice Ah10 lh10.length ch10, lh10⟩⟩, ⟨.slice Ah11 lh11.length ch11, lh11⟩⟩ : Hp)).cells.toArray)] (.v (.bool (cemptyB (Ob.mk 1 name version (⟨w0, w1, w2, ⟨.slice Aw3 lw3.length cw3, lw3⟩, ⟨.slice Aw4 lw4.length cw4, lw4⟩, ⟨.slice Aw5 lw5.length cw5, lw5⟩, w6⟩ : Wl) (⟨p0, p1, p2, p3, p4, p5, ⟨.slice Ap6 lp6.length cp6, lp6⟩, ⟨.slice Ap7 lp7.length cp7, lp7⟩, ⟨.slice Ap8 lp8.length cp8, lp8⟩, p9⟩ : Pd) (⟨n0, n1, n2, ⟨.slice An3 ln3.length cn3, ln3⟩, ⟨.slice An4 ln4.length cn4, ln4⟩, n5, n6⟩ : Nd) (⟨g0, g1, g2, g3, g4, ⟨.slice Ag5 lg5.length cg5, lg5⟩, ⟨.slice Ag6 lg6.length cg6, lg6⟩, g7⟩ : Gr) (⟨h0, h1, h2, ⟨.slice Ah3 lh3.length ch3, lh3⟩, h4, ⟨h5, h6, ⟨.slice Ah7 lh7.length ch7, lh7⟩⟩, ⟨h8, h9, ⟨.slice Ah10 lh10.length ch10, lh10⟩⟩, ⟨.slice Ah11 lh11.length ch11, lh11⟩⟩ : Hp)))))] [] [.v (ckV (nmB name) (cpodB (⟨p0, p1, p2, p3, p4, p5, ⟨.slice Ap6 lp6.length cp6, lp6⟩, ⟨.slice Ap7 lp7.length cp7, lp7⟩, ⟨.slice Ap8 lp8.length cp8, lp8⟩, p9⟩ : Pd)) (cemptyB (Ob.mk 1 name version (⟨w0, w1, w2, ⟨.slice Aw3 lw3.length cw3, lw3⟩, ⟨.slice Aw4 lw4.length cw4, lw4⟩, ⟨.slice Aw5 lw5.length cw5, lw5⟩, w6⟩ : Wl) (⟨p0, p1, p2, p3, p4, p5, ⟨.slice Ap6 lp6.length cp6, lp6⟩, ⟨.slice Ap7 lp7.length cp7, lp7⟩, ⟨.slice Ap8 lp8.length cp8, lp8⟩, p9⟩ : Pd) (⟨n0, n1, n2, ⟨.slice An3 ln3.length cn3, ln3⟩, ⟨.slice An4 ln4.length cn4, ln4⟩, n5, n6⟩ : Nd) (⟨g0, g1, g2, g3, g4, ⟨.slice Ag5 lg5.length cg5, lg5⟩, ⟨.slice Ag6 lg6.length cg6, lg6⟩, g7⟩ : Gr) (⟨h0, h1, h2, ⟨.slice Ah3 lh3.length ch3, lh3⟩, h4, ⟨h5, h6, ⟨.slice Ah7 lh7.length ch7, lh7⟩⟩, ⟨h8, h9, ⟨.slice Ah10 lh10.length ch10, lh10⟩⟩, ⟨.slice Ah11 lh11.length ch11, lh11⟩⟩ : Hp))))] (by kernel_rfl) (fun p hp => by cases hp) ?_ (fun ρ w' hb => ⟨by rw [ck_res], hb⟩)
  exact paid2_cons (fun ρ _ w1 hb => vpod_any _ w1 (ho.p.below hb)) (paid2_cons (fun ρ _ w1 hb => (lname_any _ w1 (wfs_max ho.name)).mono fun e w' ⟨h1, h2⟩ => ⟨h1, h2 ▸ Below.refl _ _⟩) (paid2_cons (fun ρ _ w1 hb => vempties_any _ w1 (ho.below hb)) paid2_nil))
set_option maxRecDepth 100000 in
theorem vcheck_2 (o : Ob) (w : World) (ho : o.Ok w) (hk : o.kind = 2) : Calls Try.prog 23 #[.agg o.cells.toArray] w fun e w' => e = .returned (.int .i64 (errN o.name (cnodeB o.n && cemptyB o))) ∧ Below w.heap.size w w' := by
  obtain ⟨kind, name, version, ⟨w0, w1, w2, ⟨vw3, lw3⟩, ⟨vw4, lw4⟩, ⟨vw5, lw5⟩, w6⟩, ⟨p0, p1, p2, p3, p4, p5, ⟨vp6, lp6⟩, ⟨vp7, lp7⟩, ⟨vp8, lp8⟩, p9⟩, ⟨n0, n1, n2, ⟨vn3, ln3⟩, ⟨vn4, ln4⟩, n5, n6⟩, ⟨g0, g1, g2, g3, g4, ⟨vg5, lg5⟩, ⟨vg6, lg6⟩, g7⟩, ⟨h0, h1, h2, ⟨vh3, lh3⟩, h4, ⟨h5, h6, ⟨vh7, lh7⟩⟩, ⟨h8, h9, ⟨vh10, lh10⟩⟩, ⟨vh11, lh11⟩⟩⟩ := o
  obtain ⟨Aw3, cw3, rfl⟩ : ∃ A c, vw3 = .slice A lw3.length c := by obtain ⟨A, c, e, _⟩ := ho.w.labels.1; exact ⟨A, c, e⟩
  obtain ⟨Aw4, cw4, rfl⟩ : ∃ A c, vw4 = .slice A lw4.length c := by obtain ⟨A, c, e, _⟩ := ho.w.select.1; exact ⟨A, c, e⟩
  obtain ⟨Aw5, cw5, rfl⟩ : ∃ A c, vw5 = .slice A lw5.length c := by obtain ⟨A, c, e, _⟩ := ho.w.tolerate.1; exact ⟨A, c, e⟩
  obtain ⟨Ap6, cp6, rfl⟩ : ∃ A c, vp6 = .slice A lp6.length c := by obtain ⟨A, c, e, _⟩ := ho.p.labels.1; exact ⟨A, c, e⟩
  obtain ⟨Ap7, cp7, rfl⟩ : ∃ A c, vp7 = .slice A lp7.length c := by obtain ⟨A, c, e, _⟩ := ho.p.select.1; exact ⟨A, c, e⟩
  obtain ⟨Ap8, cp8, rfl⟩ : ∃ A c, vp8 = .slice A lp8.length c := by obtain ⟨A, c, e, _⟩ := ho.p.tolerate.1; exact ⟨A, c, e⟩
  obtain ⟨An3, cn3, rfl⟩ : ∃ A c, vn3 = .slice A ln3.length c := by obtain ⟨A, c, e, _⟩ := ho.n.labels.1; exact ⟨A, c, e⟩
  obtain ⟨An4, cn4, rfl⟩ : ∃ A c, vn4 = .slice A ln4.length c := by obtain ⟨A, c, e, _⟩ := ho.n.taints.1; exact ⟨A, c, e⟩
  obtain ⟨Ag5, cg5, rfl⟩ : ∃ A c, vg5 = .slice A lg5.length c := by obtain ⟨A, c, e, _⟩ := ho.g.labels.1; exact ⟨A, c, e⟩
  obtain ⟨Ag6, cg6, rfl⟩ : ∃ A c, vg6 = .slice A lg6.length c := by obtain ⟨A, c, e, _⟩ := ho.g.taints.1; exact ⟨A, c, e⟩
  obtain ⟨Ah3, ch3, rfl⟩ : ∃ A c, vh3 = .slice A lh3.length c := by obtain ⟨A, c, e, _⟩ := ho.h.metrics.1; exact ⟨A, c, e⟩
  obtain ⟨Ah7, ch7, rfl⟩ : ∃ A c, vh7 = .slice A lh7.length c := by obtain ⟨A, c, e, _⟩ := ho.h.up.policies.1; exact ⟨A, c, e⟩
  obtain ⟨Ah10, ch10, rfl⟩ : ∃ A c, vh10 = .slice A lh10.length c := by obtain ⟨A, c, e, _⟩ := ho.h.down.policies.1; exact ⟨A, c, e⟩
  obtain ⟨Ah11, ch11, rfl⟩ : ∃ A c, vh11 = .slice A lh11.length c := by obtain ⟨A, c, e, _⟩ := ho.h.past.1; exact ⟨A, c, e⟩
  simp only at hk
  subst hk
  refine px_plain (args := [.agg (Ob.mk 2 name version (⟨w0, w1, w2, ⟨.slice Aw3 lw3.length cw3, lw3⟩, ⟨.slice Aw4 lw4.length cw4, lw4⟩, ⟨.slice Aw5 lw5.length cw5, lw5⟩, w6⟩ : Wl) (⟨p0, p1, p2, p3, p4, p5, ⟨.slice Ap6 lp6.length cp6, lp6⟩, ⟨.slice Ap7 lp7.length cp7, lp7⟩, ⟨.slice Ap8 lp8.length cp8, lp8⟩, p9⟩ : Pd) (⟨n0, n1, n2, ⟨.slice An3 ln3.length cn3, ln3⟩, ⟨.slice An4 ln4.length cn4, ln4⟩, n5, n6⟩ : Nd) (⟨g0, g1, g2, g3, g4, ⟨.slice Ag5 lg5.length cg5, lg5⟩, ⟨.slice Ag6 lg6.length cg6, lg6⟩, g7⟩ : Gr) (⟨h0, h1, h2, ⟨.slice Ah3 lh3.length ch3, lh3⟩, h4, ⟨h5, h6, ⟨.slice Ah7 lh7.length ch7, lh7⟩⟩, ⟨h8, h9, ⟨.slice Ah10 lh10.length ch10, lh10⟩⟩, ⟨.slice Ah11 lh11.length ch11, lh11⟩⟩ : Hp)).cells.toArray]) (callTab [(20, .v (.bool (cnodeB (⟨n0, n1, n2, ⟨.slice An3 ln3.length cn3, ln3⟩, ⟨.slice An4 ln4.length cn4, ln4⟩, n5, n6⟩ : Nd)))), (34, .v (.bool (nmB name))), (41, .v (.bool (cemptyB (Ob.mk 2 name version (⟨w0, w1, w2, ⟨.slice Aw3 lw3.length cw3, lw3⟩, ⟨.slice Aw4 lw4.length cw4, lw4⟩, ⟨.slice Aw5 lw5.length cw5, lw5⟩, w6⟩ : Wl) (⟨p0, p1, p2, p3, p4, p5, ⟨.slice Ap6 lp6.length cp6, lp6⟩, ⟨.slice Ap7 lp7.length cp7, lp7⟩, ⟨.slice Ap8 lp8.length cp8, lp8⟩, p9⟩ : Pd) (⟨n0, n1, n2, ⟨.slice An3 ln3.length cn3, ln3⟩, ⟨.slice An4 ln4.length cn4, ln4⟩, n5, n6⟩ : Nd) (⟨g0, g1, g2, g3, g4, ⟨.slice Ag5 lg5.length cg5, lg5⟩, ⟨.slice Ag6 lg6.length cg6, lg6⟩, g7⟩ : Gr) (⟨h0, h1, h2, ⟨.slice Ah3 lh3.length ch3, lh3⟩, h4, ⟨h5, h6, ⟨.slice Ah7 lh7.length ch7, lh7⟩⟩, ⟨h8, h9, ⟨.slice Ah10 lh10.length ch10, lh10⟩⟩, ⟨.slice Ah11 lh11.length ch11, lh11⟩⟩ : Hp)))))]) (litIn [6, 11, 16, 21, 26]) 44 Try.func23 (by kernel_rfl) (by kernel_rfl) (by simp)
    [.call 41 [.v (.agg (⟨n0, n1, n2, ⟨.slice An3 ln3.length cn3, ln3⟩, ⟨.slice An4 ln4.length cn4, ln4⟩, n5, n6⟩ : Nd).cells.toArray)] (.v (.bool (cnodeB (⟨n0, n1, n2, ⟨.slice An3 ln3.length cn3, ln3⟩, ⟨.slice An4 ln4.length cn4, ln4⟩, n5, n6⟩ : Nd)))), .call 44 [.v (.string name)] (.v (.bool (nmB name))), .call 45 [.v (.agg (Ob.mk 2 name version (⟨w0, w1, w2, ⟨.slice Aw3 lw3.length cw3, lw3⟩, ⟨.slice Aw4 lw4.length cw4, lw4⟩, ⟨.slice Aw5 lw5.length cw5, lw5⟩, w6⟩ : Wl) (⟨p0, p1, p2, p3, p4, p5, ⟨.slice Ap6 lp6.length cp6, lp6⟩, ⟨.slice Ap7 lp7.length cp7, lp7⟩, ⟨.slice Ap8 lp8.length cp8, lp8⟩, p9⟩ : Pd) (⟨n0, n1, n2, ⟨.slice An3 ln3.length cn3, ln3⟩, ⟨.slice An4 ln4.length cn4, ln4⟩, n5, n6⟩ : Nd) (⟨g0, g1, g2, g3, g4, ⟨.slice Ag5 lg5.length cg5, lg5⟩, ⟨.slice Ag6 lg6.length cg6, lg6⟩, g7⟩ : Gr) (⟨h0, h1, h2, ⟨.slice Ah3 lh3.length ch3, lh3⟩, h4, ⟨h5, h6, ⟨.slice Ah7 lh7.length ch7, lh7⟩⟩, ⟨h8, h9, ⟨.slice Ah10 lh10.length ch10, lh10⟩⟩, ⟨.slice Ah11 lh11.length ch11, lh11⟩⟩ : Hp)).cells.toArray)] (.v (.bool (cemptyB (Ob.mk 2 name version (⟨w0, w1, w2, ⟨.slice Aw3 lw3.length cw3, lw3⟩, ⟨.slice Aw4 lw4.length cw4, lw4⟩, ⟨.slice Aw5 lw5.length cw5, lw5⟩, w6⟩ : Wl) (⟨p0, p1, p2, p3, p4, p5, ⟨.slice Ap6 lp6.length cp6, lp6⟩, ⟨.slice Ap7 lp7.length cp7, lp7⟩, ⟨.slice Ap8 lp8.length cp8, lp8⟩, p9⟩ : Pd) (⟨n0, n1, n2, ⟨.slice An3 ln3.length cn3, ln3⟩, ⟨.slice An4 ln4.length cn4, ln4⟩, n5, n6⟩ : Nd) (⟨g0, g1, g2, g3, g4, ⟨.slice Ag5 lg5.length cg5, lg5⟩, ⟨.slice Ag6 lg6.length cg6, lg6⟩, g7⟩ : Gr) (⟨h0, h1, h2, ⟨.slice Ah3 lh3.length ch3, lh3⟩, h4, ⟨h5, h6, ⟨.slice Ah7 lh7.length ch7, lh7⟩⟩, ⟨h8, h9, ⟨.slice Ah10 lh10.length ch10, lh10⟩⟩, ⟨.slice Ah11 lh11.length ch11, lh11⟩⟩ : Hp)))))] [] [.v (ckV (nmB name) (cnodeB (⟨n0, n1, n2, ⟨.slice An3 ln3.length cn3, ln3⟩, ⟨.slice An4 ln4.length cn4, ln4⟩, n5, n6⟩ : Nd)) (cemptyB (Ob.mk 2 name version (⟨w0, w1, w2, ⟨.slice Aw3 lw3.length cw3, lw3⟩, ⟨.slice Aw4 lw4.length cw4, lw4⟩, ⟨.slice Aw5 lw5.length cw5, lw5⟩, w6⟩ : Wl) (⟨p0, p1, p2, p3, p4, p5, ⟨.slice Ap6 lp6.length cp6, lp6⟩, ⟨.slice Ap7 lp7.length cp7, lp7⟩, ⟨.slice Ap8 lp8.length cp8, lp8⟩, p9⟩ : Pd) (⟨n0, n1, n2, ⟨.slice An3 ln3.length cn3, ln3⟩, ⟨.slice An4 ln4.length cn4, ln4⟩, n5, n6⟩ : Nd) (⟨g0, g1, g2, g3, g4, ⟨.slice Ag5 lg5.length cg5, lg5⟩, ⟨.slice Ag6 lg6.length cg6, lg6⟩, g7⟩ : Gr) (⟨h0, h1, h2, ⟨.slice Ah3 lh3.length ch3, lh3⟩, h4, ⟨h5, h6, ⟨.slice Ah7 lh7.length ch7, lh7⟩⟩, ⟨h8, h9, ⟨.slice Ah10 lh10.length ch10, lh10⟩⟩, ⟨.slice Ah11 lh11.length ch11, lh11⟩⟩ : Hp))))] (by kernel_rfl) (fun p hp => by cases hp) ?_ (fun ρ w' hb => ⟨by rw [ck_res], hb⟩)
  exact paid2_cons (fun ρ _ w1 hb => vnode_any _ w1 (ho.n.below hb)) (paid2_cons (fun ρ _ w1 hb => (lname_any _ w1 (wfs_max ho.name)).mono fun e w' ⟨h1, h2⟩ => ⟨h1, h2 ▸ Below.refl _ _⟩) (paid2_cons (fun ρ _ w1 hb => vempties_any _ w1 (ho.below hb)) paid2_nil))
set_option maxRecDepth 100000 in
theorem vcheck_3 (o : Ob) (w : World) (ho : o.Ok w) (hk : o.kind = 3) : Calls Try.prog 23 #[.agg o.cells.toArray] w fun e w' => e = .returned (.int .i64 (errN o.name (cgroupB o.g && cemptyB o))) ∧ Below w.heap.size w w' := by
  obtain ⟨kind, name, version, ⟨w0, w1, w2, ⟨vw3, lw3⟩, ⟨vw4, lw4⟩, ⟨vw5, lw5⟩, w6⟩, ⟨p0, p1, p2, p3, p4, p5, ⟨vp6, lp6⟩, ⟨vp7, lp7⟩, ⟨vp8, lp8⟩, p9⟩, ⟨n0, n1, n2, ⟨vn3, ln3⟩, ⟨vn4, ln4⟩, n5, n6⟩, ⟨g0, g1, g2, g3, g4, ⟨vg5, lg5⟩, ⟨vg6, lg6⟩, g7⟩, ⟨h0, h1, h2, ⟨vh3, lh3⟩, h4, ⟨h5, h6, ⟨vh7, lh7⟩⟩, ⟨h8, h9, ⟨vh10, lh10⟩⟩, ⟨vh11, lh11⟩⟩⟩ := o
  obtain ⟨Aw3, cw3, rfl⟩ : ∃ A c, vw3 = .slice A lw3.length c := by obtain ⟨A, c, e, _⟩ := ho.w.labels.1; exact ⟨A, c, e⟩
  obtain ⟨Aw4, cw4, rfl⟩ : ∃ A c, vw4 = .slice A lw4.length c := by obtain ⟨A, c, e, _⟩ := ho.w.select.1; exact ⟨A, c, e⟩
  obtain ⟨Aw5, cw5, rfl⟩ : ∃ A c, vw5 = .slice A lw5.length c := by obtain ⟨A, c, e, _⟩ := ho.w.tolerate.1; exact ⟨A, c, e⟩
  obtain ⟨Ap6, cp6, rfl⟩ : ∃ A c, vp6 = .slice A lp6.length c := by obtain ⟨A, c, e, _⟩ := ho.p.labels.1; exact ⟨A, c, e⟩
  obtain ⟨Ap7, cp7, rfl⟩ : ∃ A c, vp7 = .slice A lp7.length c := by obtain ⟨A, c, e, _⟩ := ho.p.select.1; exact ⟨A, c, e⟩
  obtain ⟨Ap8, cp8, rfl⟩ : ∃ A c, vp8 = .slice A lp8.length c := by obtain ⟨A, c, e, _⟩ := ho.p.tolerate.1; exact ⟨A, c, e⟩
  obtain ⟨An3, cn3, rfl⟩ : ∃ A c, vn3 = .slice A ln3.length c := by obtain ⟨A, c, e, _⟩ := ho.n.labels.1; exact ⟨A, c, e⟩
  obtain ⟨An4, cn4, rfl⟩ : ∃ A c, vn4 = .slice A ln4.length c := by obtain ⟨A, c, e, _⟩ := ho.n.taints.1; exact ⟨A, c, e⟩
  obtain ⟨Ag5, cg5, rfl⟩ : ∃ A c, vg5 = .slice A lg5.length c := by obtain ⟨A, c, e, _⟩ := ho.g.labels.1; exact ⟨A, c, e⟩
  obtain ⟨Ag6, cg6, rfl⟩ : ∃ A c, vg6 = .slice A lg6.length c := by obtain ⟨A, c, e, _⟩ := ho.g.taints.1; exact ⟨A, c, e⟩
  obtain ⟨Ah3, ch3, rfl⟩ : ∃ A c, vh3 = .slice A lh3.length c := by obtain ⟨A, c, e, _⟩ := ho.h.metrics.1; exact ⟨A, c, e⟩
  obtain ⟨Ah7, ch7, rfl⟩ : ∃ A c, vh7 = .slice A lh7.length c := by obtain ⟨A, c, e, _⟩ := ho.h.up.policies.1; exact ⟨A, c, e⟩
  obtain ⟨Ah10, ch10, rfl⟩ : ∃ A c, vh10 = .slice A lh10.length c := by obtain ⟨A, c, e, _⟩ := ho.h.down.policies.1; exact ⟨A, c, e⟩
  obtain ⟨Ah11, ch11, rfl⟩ : ∃ A c, vh11 = .slice A lh11.length c := by obtain ⟨A, c, e, _⟩ := ho.h.past.1; exact ⟨A, c, e⟩
  simp only at hk
  subst hk
  refine px_plain (args := [.agg (Ob.mk 3 name version (⟨w0, w1, w2, ⟨.slice Aw3 lw3.length cw3, lw3⟩, ⟨.slice Aw4 lw4.length cw4, lw4⟩, ⟨.slice Aw5 lw5.length cw5, lw5⟩, w6⟩ : Wl) (⟨p0, p1, p2, p3, p4, p5, ⟨.slice Ap6 lp6.length cp6, lp6⟩, ⟨.slice Ap7 lp7.length cp7, lp7⟩, ⟨.slice Ap8 lp8.length cp8, lp8⟩, p9⟩ : Pd) (⟨n0, n1, n2, ⟨.slice An3 ln3.length cn3, ln3⟩, ⟨.slice An4 ln4.length cn4, ln4⟩, n5, n6⟩ : Nd) (⟨g0, g1, g2, g3, g4, ⟨.slice Ag5 lg5.length cg5, lg5⟩, ⟨.slice Ag6 lg6.length cg6, lg6⟩, g7⟩ : Gr) (⟨h0, h1, h2, ⟨.slice Ah3 lh3.length ch3, lh3⟩, h4, ⟨h5, h6, ⟨.slice Ah7 lh7.length ch7, lh7⟩⟩, ⟨h8, h9, ⟨.slice Ah10 lh10.length ch10, lh10⟩⟩, ⟨.slice Ah11 lh11.length ch11, lh11⟩⟩ : Hp)).cells.toArray]) (callTab [(25, .v (.bool (cgroupB (⟨g0, g1, g2, g3, g4, ⟨.slice Ag5 lg5.length cg5, lg5⟩, ⟨.slice Ag6 lg6.length cg6, lg6⟩, g7⟩ : Gr)))), (34, .v (.bool (nmB name))), (41, .v (.bool (cemptyB (Ob.mk 3 name version (⟨w0, w1, w2, ⟨.slice Aw3 lw3.length cw3, lw3⟩, ⟨.slice Aw4 lw4.length cw4, lw4⟩, ⟨.slice Aw5 lw5.length cw5, lw5⟩, w6⟩ : Wl) (⟨p0, p1, p2, p3, p4, p5, ⟨.slice Ap6 lp6.length cp6, lp6⟩, ⟨.slice Ap7 lp7.length cp7, lp7⟩, ⟨.slice Ap8 lp8.length cp8, lp8⟩, p9⟩ : Pd) (⟨n0, n1, n2, ⟨.slice An3 ln3.length cn3, ln3⟩, ⟨.slice An4 ln4.length cn4, ln4⟩, n5, n6⟩ : Nd) (⟨g0, g1, g2, g3, g4, ⟨.slice Ag5 lg5.length cg5, lg5⟩, ⟨.slice Ag6 lg6.length cg6, lg6⟩, g7⟩ : Gr) (⟨h0, h1, h2, ⟨.slice Ah3 lh3.length ch3, lh3⟩, h4, ⟨h5, h6, ⟨.slice Ah7 lh7.length ch7, lh7⟩⟩, ⟨h8, h9, ⟨.slice Ah10 lh10.length ch10, lh10⟩⟩, ⟨.slice Ah11 lh11.length ch11, lh11⟩⟩ : Hp)))))]) (litIn [6, 11, 16, 21, 26]) 44 Try.func23 (by kernel_rfl) (by kernel_rfl) (by simp)
    [.call 42 [.v (.agg (⟨g0, g1, g2, g3, g4, ⟨.slice Ag5 lg5.length cg5, lg5⟩, ⟨.slice Ag6 lg6.length cg6, lg6⟩, g7⟩ : Gr).cells.toArray)] (.v (.bool (cgroupB (⟨g0, g1, g2, g3, g4, ⟨.slice Ag5 lg5.length cg5, lg5⟩, ⟨.slice Ag6 lg6.length cg6, lg6⟩, g7⟩ : Gr)))), .call 44 [.v (.string name)] (.v (.bool (nmB name))), .call 45 [.v (.agg (Ob.mk 3 name version (⟨w0, w1, w2, ⟨.slice Aw3 lw3.length cw3, lw3⟩, ⟨.slice Aw4 lw4.length cw4, lw4⟩, ⟨.slice Aw5 lw5.length cw5, lw5⟩, w6⟩ : Wl) (⟨p0, p1, p2, p3, p4, p5, ⟨.slice Ap6 lp6.length cp6, lp6⟩, ⟨.slice Ap7 lp7.length cp7, lp7⟩, ⟨.slice Ap8 lp8.length cp8, lp8⟩, p9⟩ : Pd) (⟨n0, n1, n2, ⟨.slice An3 ln3.length cn3, ln3⟩, ⟨.slice An4 ln4.length cn4, ln4⟩, n5, n6⟩ : Nd) (⟨g0, g1, g2, g3, g4, ⟨.slice Ag5 lg5.length cg5, lg5⟩, ⟨.slice Ag6 lg6.length cg6, lg6⟩, g7⟩ : Gr) (⟨h0, h1, h2, ⟨.slice Ah3 lh3.length ch3, lh3⟩, h4, ⟨h5, h6, ⟨.slice Ah7 lh7.length ch7, lh7⟩⟩, ⟨h8, h9, ⟨.slice Ah10 lh10.length ch10, lh10⟩⟩, ⟨.slice Ah11 lh11.length ch11, lh11⟩⟩ : Hp)).cells.toArray)] (.v (.bool (cemptyB (Ob.mk 3 name version (⟨w0, w1, w2, ⟨.slice Aw3 lw3.length cw3, lw3⟩, ⟨.slice Aw4 lw4.length cw4, lw4⟩, ⟨.slice Aw5 lw5.length cw5, lw5⟩, w6⟩ : Wl) (⟨p0, p1, p2, p3, p4, p5, ⟨.slice Ap6 lp6.length cp6, lp6⟩, ⟨.slice Ap7 lp7.length cp7, lp7⟩, ⟨.slice Ap8 lp8.length cp8, lp8⟩, p9⟩ : Pd) (⟨n0, n1, n2, ⟨.slice An3 ln3.length cn3, ln3⟩, ⟨.slice An4 ln4.length cn4, ln4⟩, n5, n6⟩ : Nd) (⟨g0, g1, g2, g3, g4, ⟨.slice Ag5 lg5.length cg5, lg5⟩, ⟨.slice Ag6 lg6.length cg6, lg6⟩, g7⟩ : Gr) (⟨h0, h1, h2, ⟨.slice Ah3 lh3.length ch3, lh3⟩, h4, ⟨h5, h6, ⟨.slice Ah7 lh7.length ch7, lh7⟩⟩, ⟨h8, h9, ⟨.slice Ah10 lh10.length ch10, lh10⟩⟩, ⟨.slice Ah11 lh11.length ch11, lh11⟩⟩ : Hp)))))] [] [.v (ckV (nmB name) (cgroupB (⟨g0, g1, g2, g3, g4, ⟨.slice Ag5 lg5.length cg5, lg5⟩, ⟨.slice Ag6 lg6.length cg6, lg6⟩, g7⟩ : Gr)) (cemptyB (Ob.mk 3 name version (⟨w0, w1, w2, ⟨.slice Aw3 lw3.length cw3, lw3⟩, ⟨.slice Aw4 lw4.length cw4, lw4⟩, ⟨.slice Aw5 lw5.length cw5, lw5⟩, w6⟩ : Wl) (⟨p0, p1, p2, p3, p4, p5, ⟨.slice Ap6 lp6.length cp6, lp6⟩, ⟨.slice Ap7 lp7.length cp7, lp7⟩, ⟨.slice Ap8 lp8.length cp8, lp8⟩, p9⟩ : Pd) (⟨n0, n1, n2, ⟨.slice An3 ln3.length cn3, ln3⟩, ⟨.slice An4 ln4.length cn4, ln4⟩, n5, n6⟩ : Nd) (⟨g0, g1, g2, g3, g4, ⟨.slice Ag5 lg5.length cg5, lg5⟩, ⟨.slice Ag6 lg6.length cg6, lg6⟩, g7⟩ : Gr) (⟨h0, h1, h2, ⟨.slice Ah3 lh3.length ch3, lh3⟩, h4, ⟨h5, h6, ⟨.slice Ah7 lh7.length ch7, lh7⟩⟩, ⟨h8, h9, ⟨.slice Ah10 lh10.length ch10, lh10⟩⟩, ⟨.slice Ah11 lh11.length ch11, lh11⟩⟩ : Hp))))] (by kernel_rfl) (fun p hp => by cases hp) ?_ (fun ρ w' hb => ⟨by rw [ck_res], hb⟩)
  exact paid2_cons (fun ρ _ w1 hb => vgroup_any _ w1 (ho.g.below hb)) (paid2_cons (fun ρ _ w1 hb => (lname_any _ w1 (wfs_max ho.name)).mono fun e w' ⟨h1, h2⟩ => ⟨h1, h2 ▸ Below.refl _ _⟩) (paid2_cons (fun ρ _ w1 hb => vempties_any _ w1 (ho.below hb)) paid2_nil))
set_option maxRecDepth 100000 in
theorem vcheck_4 (o : Ob) (w : World) (ho : o.Ok w) (hk : o.kind = 4) : Calls Try.prog 23 #[.agg o.cells.toArray] w fun e w' => e = .returned (.int .i64 (errN o.name (chpaB o.h && cemptyB o))) ∧ Below w.heap.size w w' := by
  obtain ⟨kind, name, version, ⟨w0, w1, w2, ⟨vw3, lw3⟩, ⟨vw4, lw4⟩, ⟨vw5, lw5⟩, w6⟩, ⟨p0, p1, p2, p3, p4, p5, ⟨vp6, lp6⟩, ⟨vp7, lp7⟩, ⟨vp8, lp8⟩, p9⟩, ⟨n0, n1, n2, ⟨vn3, ln3⟩, ⟨vn4, ln4⟩, n5, n6⟩, ⟨g0, g1, g2, g3, g4, ⟨vg5, lg5⟩, ⟨vg6, lg6⟩, g7⟩, ⟨h0, h1, h2, ⟨vh3, lh3⟩, h4, ⟨h5, h6, ⟨vh7, lh7⟩⟩, ⟨h8, h9, ⟨vh10, lh10⟩⟩, ⟨vh11, lh11⟩⟩⟩ := o
  obtain ⟨Aw3, cw3, rfl⟩ : ∃ A c, vw3 = .slice A lw3.length c := by obtain ⟨A, c, e, _⟩ := ho.w.labels.1; exact ⟨A, c, e⟩
  obtain ⟨Aw4, cw4, rfl⟩ : ∃ A c, vw4 = .slice A lw4.length c := by obtain ⟨A, c, e, _⟩ := ho.w.select.1; exact ⟨A, c, e⟩
  obtain ⟨Aw5, cw5, rfl⟩ : ∃ A c, vw5 = .slice A lw5.length c := by obtain ⟨A, c, e, _⟩ := ho.w.tolerate.1; exact ⟨A, c, e⟩
  obtain ⟨Ap6, cp6, rfl⟩ : ∃ A c, vp6 = .slice A lp6.length c := by obtain ⟨A, c, e, _⟩ := ho.p.labels.1; exact ⟨A, c, e⟩
  obtain ⟨Ap7, cp7, rfl⟩ : ∃ A c, vp7 = .slice A lp7.length c := by obtain ⟨A, c, e, _⟩ := ho.p.select.1; exact ⟨A, c, e⟩
  obtain ⟨Ap8, cp8, rfl⟩ : ∃ A c, vp8 = .slice A lp8.length c := by obtain ⟨A, c, e, _⟩ := ho.p.tolerate.1; exact ⟨A, c, e⟩
  obtain ⟨An3, cn3, rfl⟩ : ∃ A c, vn3 = .slice A ln3.length c := by obtain ⟨A, c, e, _⟩ := ho.n.labels.1; exact ⟨A, c, e⟩
  obtain ⟨An4, cn4, rfl⟩ : ∃ A c, vn4 = .slice A ln4.length c := by obtain ⟨A, c, e, _⟩ := ho.n.taints.1; exact ⟨A, c, e⟩
  obtain ⟨Ag5, cg5, rfl⟩ : ∃ A c, vg5 = .slice A lg5.length c := by obtain ⟨A, c, e, _⟩ := ho.g.labels.1; exact ⟨A, c, e⟩
  obtain ⟨Ag6, cg6, rfl⟩ : ∃ A c, vg6 = .slice A lg6.length c := by obtain ⟨A, c, e, _⟩ := ho.g.taints.1; exact ⟨A, c, e⟩
  obtain ⟨Ah3, ch3, rfl⟩ : ∃ A c, vh3 = .slice A lh3.length c := by obtain ⟨A, c, e, _⟩ := ho.h.metrics.1; exact ⟨A, c, e⟩
  obtain ⟨Ah7, ch7, rfl⟩ : ∃ A c, vh7 = .slice A lh7.length c := by obtain ⟨A, c, e, _⟩ := ho.h.up.policies.1; exact ⟨A, c, e⟩
  obtain ⟨Ah10, ch10, rfl⟩ : ∃ A c, vh10 = .slice A lh10.length c := by obtain ⟨A, c, e, _⟩ := ho.h.down.policies.1; exact ⟨A, c, e⟩
  obtain ⟨Ah11, ch11, rfl⟩ : ∃ A c, vh11 = .slice A lh11.length c := by obtain ⟨A, c, e, _⟩ := ho.h.past.1; exact ⟨A, c, e⟩
  simp only at hk
  subst hk
  refine px_plain (args := [.agg (Ob.mk 4 name version (⟨w0, w1, w2, ⟨.slice Aw3 lw3.length cw3, lw3⟩, ⟨.slice Aw4 lw4.length cw4, lw4⟩, ⟨.slice Aw5 lw5.length cw5, lw5⟩, w6⟩ : Wl) (⟨p0, p1, p2, p3, p4, p5, ⟨.slice Ap6 lp6.length cp6, lp6⟩, ⟨.slice Ap7 lp7.length cp7, lp7⟩, ⟨.slice Ap8 lp8.length cp8, lp8⟩, p9⟩ : Pd) (⟨n0, n1, n2, ⟨.slice An3 ln3.length cn3, ln3⟩, ⟨.slice An4 ln4.length cn4, ln4⟩, n5, n6⟩ : Nd) (⟨g0, g1, g2, g3, g4, ⟨.slice Ag5 lg5.length cg5, lg5⟩, ⟨.slice Ag6 lg6.length cg6, lg6⟩, g7⟩ : Gr) (⟨h0, h1, h2, ⟨.slice Ah3 lh3.length ch3, lh3⟩, h4, ⟨h5, h6, ⟨.slice Ah7 lh7.length ch7, lh7⟩⟩, ⟨h8, h9, ⟨.slice Ah10 lh10.length ch10, lh10⟩⟩, ⟨.slice Ah11 lh11.length ch11, lh11⟩⟩ : Hp)).cells.toArray]) (callTab [(30, .v (.bool (chpaB (⟨h0, h1, h2, ⟨.slice Ah3 lh3.length ch3, lh3⟩, h4, ⟨h5, h6, ⟨.slice Ah7 lh7.length ch7, lh7⟩⟩, ⟨h8, h9, ⟨.slice Ah10 lh10.length ch10, lh10⟩⟩, ⟨.slice Ah11 lh11.length ch11, lh11⟩⟩ : Hp)))), (34, .v (.bool (nmB name))), (41, .v (.bool (cemptyB (Ob.mk 4 name version (⟨w0, w1, w2, ⟨.slice Aw3 lw3.length cw3, lw3⟩, ⟨.slice Aw4 lw4.length cw4, lw4⟩, ⟨.slice Aw5 lw5.length cw5, lw5⟩, w6⟩ : Wl) (⟨p0, p1, p2, p3, p4, p5, ⟨.slice Ap6 lp6.length cp6, lp6⟩, ⟨.slice Ap7 lp7.length cp7, lp7⟩, ⟨.slice Ap8 lp8.length cp8, lp8⟩, p9⟩ : Pd) (⟨n0, n1, n2, ⟨.slice An3 ln3.length cn3, ln3⟩, ⟨.slice An4 ln4.length cn4, ln4⟩, n5, n6⟩ : Nd) (⟨g0, g1, g2, g3, g4, ⟨.slice Ag5 lg5.length cg5, lg5⟩, ⟨.slice Ag6 lg6.length cg6, lg6⟩, g7⟩ : Gr) (⟨h0, h1, h2, ⟨.slice Ah3 lh3.length ch3, lh3⟩, h4, ⟨h5, h6, ⟨.slice Ah7 lh7.length ch7, lh7⟩⟩, ⟨h8, h9, ⟨.slice Ah10 lh10.length ch10, lh10⟩⟩, ⟨.slice Ah11 lh11.length ch11, lh11⟩⟩ : Hp)))))]) (litIn [6, 11, 16, 21, 26]) 44 Try.func23 (by kernel_rfl) (by kernel_rfl) (by simp)
    [.call 43 [.v (.agg (⟨h0, h1, h2, ⟨.slice Ah3 lh3.length ch3, lh3⟩, h4, ⟨h5, h6, ⟨.slice Ah7 lh7.length ch7, lh7⟩⟩, ⟨h8, h9, ⟨.slice Ah10 lh10.length ch10, lh10⟩⟩, ⟨.slice Ah11 lh11.length ch11, lh11⟩⟩ : Hp).cells.toArray)] (.v (.bool (chpaB (⟨h0, h1, h2, ⟨.slice Ah3 lh3.length ch3, lh3⟩, h4, ⟨h5, h6, ⟨.slice Ah7 lh7.length ch7, lh7⟩⟩, ⟨h8, h9, ⟨.slice Ah10 lh10.length ch10, lh10⟩⟩, ⟨.slice Ah11 lh11.length ch11, lh11⟩⟩ : Hp)))), .call 44 [.v (.string name)] (.v (.bool (nmB name))), .call 45 [.v (.agg (Ob.mk 4 name version (⟨w0, w1, w2, ⟨.slice Aw3 lw3.length cw3, lw3⟩, ⟨.slice Aw4 lw4.length cw4, lw4⟩, ⟨.slice Aw5 lw5.length cw5, lw5⟩, w6⟩ : Wl) (⟨p0, p1, p2, p3, p4, p5, ⟨.slice Ap6 lp6.length cp6, lp6⟩, ⟨.slice Ap7 lp7.length cp7, lp7⟩, ⟨.slice Ap8 lp8.length cp8, lp8⟩, p9⟩ : Pd) (⟨n0, n1, n2, ⟨.slice An3 ln3.length cn3, ln3⟩, ⟨.slice An4 ln4.length cn4, ln4⟩, n5, n6⟩ : Nd) (⟨g0, g1, g2, g3, g4, ⟨.slice Ag5 lg5.length cg5, lg5⟩, ⟨.slice Ag6 lg6.length cg6, lg6⟩, g7⟩ : Gr) (⟨h0, h1, h2, ⟨.slice Ah3 lh3.length ch3, lh3⟩, h4, ⟨h5, h6, ⟨.slice Ah7 lh7.length ch7, lh7⟩⟩, ⟨h8, h9, ⟨.slice Ah10 lh10.length ch10, lh10⟩⟩, ⟨.slice Ah11 lh11.length ch11, lh11⟩⟩ : Hp)).cells.toArray)] (.v (.bool (cemptyB (Ob.mk 4 name version (⟨w0, w1, w2, ⟨.slice Aw3 lw3.length cw3, lw3⟩, ⟨.slice Aw4 lw4.length cw4, lw4⟩, ⟨.slice Aw5 lw5.length cw5, lw5⟩, w6⟩ : Wl) (⟨p0, p1, p2, p3, p4, p5, ⟨.slice Ap6 lp6.length cp6, lp6⟩, ⟨.slice Ap7 lp7.length cp7, lp7⟩, ⟨.slice Ap8 lp8.length cp8, lp8⟩, p9⟩ : Pd) (⟨n0, n1, n2, ⟨.slice An3 ln3.length cn3, ln3⟩, ⟨.slice An4 ln4.length cn4, ln4⟩, n5, n6⟩ : Nd) (⟨g0, g1, g2, g3, g4, ⟨.slice Ag5 lg5.length cg5, lg5⟩, ⟨.slice Ag6 lg6.length cg6, lg6⟩, g7⟩ : Gr) (⟨h0, h1, h2, ⟨.slice Ah3 lh3.length ch3, lh3⟩, h4, ⟨h5, h6, ⟨.slice Ah7 lh7.length ch7, lh7⟩⟩, ⟨h8, h9, ⟨.slice Ah10 lh10.length ch10, lh10⟩⟩, ⟨.slice Ah11 lh11.length ch11, lh11⟩⟩ : Hp)))))] [] [.v (ckV (nmB name) (chpaB (⟨h0, h1, h2, ⟨.slice Ah3 lh3.length ch3, lh3⟩, h4, ⟨h5, h6, ⟨.slice Ah7 lh7.length ch7, lh7⟩⟩, ⟨h8, h9, ⟨.slice Ah10 lh10.length ch10, lh10⟩⟩, ⟨.slice Ah11 lh11.length ch11, lh11⟩⟩ : Hp)) (cemptyB (Ob.mk 4 name version (⟨w0, w1, w2, ⟨.slice Aw3 lw3.length cw3, lw3⟩, ⟨.slice Aw4 lw4.length cw4, lw4⟩, ⟨.slice Aw5 lw5.length cw5, lw5⟩, w6⟩ : Wl) (⟨p0, p1, p2, p3, p4, p5, ⟨.slice Ap6 lp6.length cp6, lp6⟩, ⟨.slice Ap7 lp7.length cp7, lp7⟩, ⟨.slice Ap8 lp8.length cp8, lp8⟩, p9⟩ : Pd) (⟨n0, n1, n2, ⟨.slice An3 ln3.length cn3, ln3⟩, ⟨.slice An4 ln4.length cn4, ln4⟩, n5, n6⟩ : Nd) (⟨g0, g1, g2, g3, g4, ⟨.slice Ag5 lg5.length cg5, lg5⟩, ⟨.slice Ag6 lg6.length cg6, lg6⟩, g7⟩ : Gr) (⟨h0, h1, h2, ⟨.slice Ah3 lh3.length ch3, lh3⟩, h4, ⟨h5, h6, ⟨.slice Ah7 lh7.length ch7, lh7⟩⟩, ⟨h8, h9, ⟨.slice Ah10 lh10.length ch10, lh10⟩⟩, ⟨.slice Ah11 lh11.length ch11, lh11⟩⟩ : Hp))))] (by kernel_rfl) (fun p hp => by cases hp) ?_ (fun ρ w' hb => ⟨by rw [ck_res], hb⟩)
  exact paid2_cons (fun ρ _ w1 hb => vhpa_any _ w1 (ho.h.below hb)) (paid2_cons (fun ρ _ w1 hb => (lname_any _ w1 (wfs_max ho.name)).mono fun e w' ⟨h1, h2⟩ => ⟨h1, h2 ▸ Below.refl _ _⟩) (paid2_cons (fun ρ _ w1 hb => vempties_any _ w1 (ho.below hb)) paid2_nil))
set_option maxRecDepth 100000 in
theorem vcheck_no (o : Ob) (w : World) (ho : o.Ok w) (hk : ¬ (0 ≤ o.kind ∧ o.kind ≤ 4)) : Calls Try.prog 23 #[.agg o.cells.toArray] w fun e w' => e = .returned (.int .i64 17) ∧ Below w.heap.size w w' := by
  obtain ⟨kind, name, version, ⟨w0, w1, w2, ⟨vw3, lw3⟩, ⟨vw4, lw4⟩, ⟨vw5, lw5⟩, w6⟩, ⟨p0, p1, p2, p3, p4, p5, ⟨vp6, lp6⟩, ⟨vp7, lp7⟩, ⟨vp8, lp8⟩, p9⟩, ⟨n0, n1, n2, ⟨vn3, ln3⟩, ⟨vn4, ln4⟩, n5, n6⟩, ⟨g0, g1, g2, g3, g4, ⟨vg5, lg5⟩, ⟨vg6, lg6⟩, g7⟩, ⟨h0, h1, h2, ⟨vh3, lh3⟩, h4, ⟨h5, h6, ⟨vh7, lh7⟩⟩, ⟨h8, h9, ⟨vh10, lh10⟩⟩, ⟨vh11, lh11⟩⟩⟩ := o
  obtain ⟨Aw3, cw3, rfl⟩ : ∃ A c, vw3 = .slice A lw3.length c := by obtain ⟨A, c, e, _⟩ := ho.w.labels.1; exact ⟨A, c, e⟩
  obtain ⟨Aw4, cw4, rfl⟩ : ∃ A c, vw4 = .slice A lw4.length c := by obtain ⟨A, c, e, _⟩ := ho.w.select.1; exact ⟨A, c, e⟩
  obtain ⟨Aw5, cw5, rfl⟩ : ∃ A c, vw5 = .slice A lw5.length c := by obtain ⟨A, c, e, _⟩ := ho.w.tolerate.1; exact ⟨A, c, e⟩
  obtain ⟨Ap6, cp6, rfl⟩ : ∃ A c, vp6 = .slice A lp6.length c := by obtain ⟨A, c, e, _⟩ := ho.p.labels.1; exact ⟨A, c, e⟩
  obtain ⟨Ap7, cp7, rfl⟩ : ∃ A c, vp7 = .slice A lp7.length c := by obtain ⟨A, c, e, _⟩ := ho.p.select.1; exact ⟨A, c, e⟩
  obtain ⟨Ap8, cp8, rfl⟩ : ∃ A c, vp8 = .slice A lp8.length c := by obtain ⟨A, c, e, _⟩ := ho.p.tolerate.1; exact ⟨A, c, e⟩
  obtain ⟨An3, cn3, rfl⟩ : ∃ A c, vn3 = .slice A ln3.length c := by obtain ⟨A, c, e, _⟩ := ho.n.labels.1; exact ⟨A, c, e⟩
  obtain ⟨An4, cn4, rfl⟩ : ∃ A c, vn4 = .slice A ln4.length c := by obtain ⟨A, c, e, _⟩ := ho.n.taints.1; exact ⟨A, c, e⟩
  obtain ⟨Ag5, cg5, rfl⟩ : ∃ A c, vg5 = .slice A lg5.length c := by obtain ⟨A, c, e, _⟩ := ho.g.labels.1; exact ⟨A, c, e⟩
  obtain ⟨Ag6, cg6, rfl⟩ : ∃ A c, vg6 = .slice A lg6.length c := by obtain ⟨A, c, e, _⟩ := ho.g.taints.1; exact ⟨A, c, e⟩
  obtain ⟨Ah3, ch3, rfl⟩ : ∃ A c, vh3 = .slice A lh3.length c := by obtain ⟨A, c, e, _⟩ := ho.h.metrics.1; exact ⟨A, c, e⟩
  obtain ⟨Ah7, ch7, rfl⟩ : ∃ A c, vh7 = .slice A lh7.length c := by obtain ⟨A, c, e, _⟩ := ho.h.up.policies.1; exact ⟨A, c, e⟩
  obtain ⟨Ah10, ch10, rfl⟩ : ∃ A c, vh10 = .slice A lh10.length c := by obtain ⟨A, c, e, _⟩ := ho.h.down.policies.1; exact ⟨A, c, e⟩
  obtain ⟨Ah11, ch11, rfl⟩ : ∃ A c, vh11 = .slice A lh11.length c := by obtain ⟨A, c, e, _⟩ := ho.h.past.1; exact ⟨A, c, e⟩
  simp only at hk
  have k0 : (kind == 0) = false := by rw [Bool.eq_false_iff]; intro h; have := eq_of_beq h; omega
  have k1 : (kind == 1) = false := by rw [Bool.eq_false_iff]; intro h; have := eq_of_beq h; omega
  have k2 : (kind == 2) = false := by rw [Bool.eq_false_iff]; intro h; have := eq_of_beq h; omega
  have k3 : (kind == 3) = false := by rw [Bool.eq_false_iff]; intro h; have := eq_of_beq h; omega
  have k4 : (kind == 4) = false := by rw [Bool.eq_false_iff]; intro h; have := eq_of_beq h; omega
  refine px_calls (f := 23) (fn := Try.f23) (args := [.v (.agg (Ob.mk kind name version (⟨w0, w1, w2, ⟨.slice Aw3 lw3.length cw3, lw3⟩, ⟨.slice Aw4 lw4.length cw4, lw4⟩, ⟨.slice Aw5 lw5.length cw5, lw5⟩, w6⟩ : Wl) (⟨p0, p1, p2, p3, p4, p5, ⟨.slice Ap6 lp6.length cp6, lp6⟩, ⟨.slice Ap7 lp7.length cp7, lp7⟩, ⟨.slice Ap8 lp8.length cp8, lp8⟩, p9⟩ : Pd) (⟨n0, n1, n2, ⟨.slice An3 ln3.length cn3, ln3⟩, ⟨.slice An4 ln4.length cn4, ln4⟩, n5, n6⟩ : Nd) (⟨g0, g1, g2, g3, g4, ⟨.slice Ag5 lg5.length cg5, lg5⟩, ⟨.slice Ag6 lg6.length cg6, lg6⟩, g7⟩ : Gr) (⟨h0, h1, h2, ⟨.slice Ah3 lh3.length ch3, lh3⟩, h4, ⟨h5, h6, ⟨.slice Ah7 lh7.length ch7, lh7⟩⟩, ⟨h8, h9, ⟨.slice Ah10 lh10.length ch10, lh10⟩⟩, ⟨.slice Ah11 lh11.length ch11, lh11⟩⟩ : Hp)).cells.toArray)]) (B := []) (ρ0 := fun _ => (0, 0)) (H := ⟨⟨Try.prog, [], aggR, fun _ => none, 44, litIn []⟩, w, fun _ => True, 0, [], fun _ => none, litIn [], fun s => match litIn [6, 11, 16, 21, 26] s with | true => some false | false => none⟩) aggR_ok (fun _ _ _ _ h => h) (by kernel_rfl) Try.func23 rfl (by kernel_rfl) (by show (1 : Nat) ≤ 44; decide) rfl (by simp [SV.lt]) trivial (Nat.le_refl _) (fun i b hb => by simp at hb) (fun _ => [])
    ⟨[], [], [(kind == 0, false), (kind == 1, false), (kind == 2, false), (kind == 3, false), (kind == 4, false)]⟩ [.v (.int .i64 17)] (by kernel_rfl) ⟨fun x hx => (by cases hx), fun q hq => (by cases hq), fun p hp => ?_⟩ (fun ρ w' _ hb => ⟨rfl, hb⟩)
  simp only [List.mem_cons, List.not_mem_nil, or_false] at hp
  rcases hp with rfl | rfl | rfl | rfl | rfl
  · exact k0
  · exact k1
  · exact k2
  · exact k3
  · exact k4
end Go.Proofs.Ytlhaiflebigdlaa
end
section
namespace Go.Proofs.Ytlhaiflebigdlaa
open Go.RowKit Go.Proofs.Mem
set_option linter.unusedVariables false
set_option linter.unusedSimpArgs false
def rlHyp (P : Program) (agg : BinOp → TypeId → Array Value → Array Value → Option Value) (w : World) (n : Nat) (call : Nat → Option SV) (id : Nat) (B : List Blk) (fx fr : PF) (ok : Bool) : Hyp :=
  ⟨⟨P, [], agg, call, n, litIn []⟩, w, fun _ => True, 0, [], fun i => match Nat.beq i id with
    | true => some fun _ => .br ok (.done .normal ⟨fx, B⟩) (.done .ret ⟨fr, B⟩)
    | false => none, litIn [], fun _ => none⟩
def allAt {α : Type} (p : Nat → α → Bool) (l : List α) : Bool := decide (∀ k (h : k < l.length), p k l[k] = true)
theorem allAt_no {α : Type} {p : Nat → α → Bool} {l : List α} (k : Nat) (h : k < l.length) (e : p k l[k] = false) : allAt p l = false := decide_eq_false fun hh => by rw [hh k h] at e; cases e
def polOk (l : List Pol) : Bool := allAt (fun k x => !(((decide (x.value < 1) || decide (1000000 < x.value)) || decide (x.period < 1)) || decide (1800 < x.period))) l
def goesB (x : Bh) : Bool := polOk x.policies.l && ((((decide (0 ≤ x.window) && decide (x.window ≤ 1800)) && decide (0 ≤ x.pick)) && decide (x.pick ≤ 2)) && decide ((x.policies.l.length : Int) ≤ 4))
theorem res_and {ρ : Nat → Nat × Nat} (b c : Bool) : resVal ρ [.v (pickV b (.bool c) (.bool false))] = .bool (b && c) := by cases b <;> cases c <;> rfl
set_option maxRecDepth 100000 in
theorem goes_loop (wi pi : Int) (A : Option Addr) (c : Nat) (l : List Pol) (w : World) (hr : PolsOk w ⟨.slice A l.length c, l⟩) (hl : l.length ≤ 140737488355328) :
    LoopSpec (rlHyp Try.prog aggR w 55 (fun _ => none) 0 [⟨true, 51, [.int .i64 wi, .int .i64 pi, .slice A l.length c]⟩] (mkF [1] [.p 0 0]) (mkF [2] [.v (.bool false)]) (allAt (fun k x => !(((decide (x.value < 1) || decide (1000000 < x.value)) || decide (x.period < 1)) || decide (1800 < x.period))) l)) (fun _ => [8, 6, 7, 1, 2]) (0, .loop (loopBody Try.f32 0), [some (.v (.int .i64 0)), some (.v (.slice A l.length c)), some (.v (.int .i64 (l.length : Int))), some (.p 0 0), some (.v (.bool false))], [⟨true, 51, [.int .i64 wi, .int .i64 pi, .slice A l.length c]⟩]) := by
  refine px_loop (H := (rlHyp Try.prog aggR w 55 (fun _ => none) 0 [⟨true, 51, [.int .i64 wi, .int .i64 pi, .slice A l.length c]⟩] (mkF [1] [.p 0 0]) (mkF [2] [.v (.bool false)]) (allAt (fun k x => !(((decide (x.value < 1) || decide (1000000 < x.value)) || decide (x.period < 1)) || decide (1800 < x.period))) l))) (K := .i64) aggR_ok (fun _ _ _ _ h => h) (by kernel_rfl) rfl (fun _ => [8, 6, 7, 1, 2]) (kx := [1]) (kr := [2]) rfl l.length 1 (fun k => ∀ i (h : i < l.length), i < k → (!(((decide (l[i].value < 1) || decide (1000000 < l[i].value)) || decide (l[i].period < 1)) || decide (1800 < l[i].period))) = true) (fun i h hi => absurd hi (Nat.not_lt_zero _)) (fun k => [.v (.slice A l.length c), .v (.int .i64 (l.length : Int)), .p 0 0, .v (.bool false)]) (fun _ => [⟨true, 51, [.int .i64 wi, .int .i64 pi, .slice A l.length c]⟩])
    (fun k => if h : k < l.length then some (⟨false, 117, Pol.cells l[k]⟩, match A with | some ad => (ad.block, ad.off + k * 3) | none => (0, 0)) else none)
    (fun k => if h : k < l.length then callTab [(10, .p 1 0)] else callTab [])
    (fun _ => litIn []) (fun k s => match Nat.beq s 9 with | true => some (decide (k < l.length)) | false => none)
    (fun _ _ => rfl) (fun _ _ => rfl) ?_ (Nat.zero_le _) ?_
  · intro k x hx
    split at hx
    · rename_i hk
      obtain ⟨b, o, c', e, hb, hrg⟩ := row_range (r := ⟨.slice A l.length c, l⟩) (s := 3) (by decide) (fun _ => rfl) hr (Nat.lt_of_le_of_lt (Nat.zero_le _) hk)
      simp only [Value.slice.injEq] at e
      obtain ⟨rfl, -, -⟩ := e
      simp only [Option.some.injEq] at hx
      subst hx
      exact ⟨rfl, hb, elem_range (f := Pol.cells) (s := 3) (fun _ => rfl) hrg k hk⟩
    · cases hx
  · intro k hk hJ
    by_cases hkn : k < l.length
    · obtain ⟨b, o, c', e, hb, hrg⟩ := row_range (r := ⟨.slice A l.length c, l⟩) (s := 3) (by decide) (fun _ => rfl) hr (Nat.lt_of_le_of_lt (Nat.zero_le _) hkn)
      simp only [Value.slice.injEq] at e
      obtain ⟨rfl, -, -⟩ := e
      have hw := hr.2.2 _ (List.getElem_mem hkn)
      rw [dif_pos hkn, dif_pos hkn, decide_eq_true hkn]
      refine ⟨.br (((decide (l[k].value < 1) || decide (1000000 < l[k].value)) || decide (l[k].period < 1)) || decide (1800 < l[k].period)) (.ret [some (.v (.bool false))] [⟨true, 51, [.int .i64 wi, .int .i64 pi, .slice (some ⟨b, o, none⟩) l.length c]⟩]) (.norm [some (.v (.int .i64 (IntKind.i64.wrap ((k : Int) + 1)))), some (.v (.slice (some ⟨b, o, none⟩) l.length c)), some (.v (.int .i64 (l.length : Int))), some (.p 0 0), some (.v (.bool false))] [⟨true, 51, [.int .i64 wi, .int .i64 pi, .slice (some ⟨b, o, none⟩) l.length c]⟩]),
        ⟨[.op (fun ρ => do pure (.value (← Instr.indexAt 49 (.slice (some ⟨b, o, none⟩) l.length c) (.int .i64 (k : Int))))) (.p 1 0)], [], [(decide ((k : Int) < (l.length : Int)), true)]⟩, by kernel_rfl, ⟨?_, ?_, ?_⟩, ?_⟩
      · refine paid2_cons (paid_index (s := 3) (by kernel_rfl) (show (Try.prog.info? 117).map (·.size) = some 3 by kernel_rfl) hkn fun ρ hX => ?_) (paid2_nil)
        rw [hX.2 _ rfl]
        exact ⟨rfl, rfl⟩
      · exact fun q hq => by cases hq
      · exact fun p hp => by rw [List.mem_singleton.1 hp]; exact decide_eq_true (Int.ofNat_lt.2 hkn)
      · refine ⟨fun hb => ⟨[.v (.bool false)], rfl, rfl, fun Q hQ => hQ.2 (allAt_no k hkn ?_)⟩, fun hb => ⟨hkn, ?_, ?_, rfl⟩⟩
        · show (!(((decide (l[k].value < 1) || decide (1000000 < l[k].value)) || decide (l[k].period < 1)) || decide (1800 < l[k].period))) = false
          rw [hb]
          rfl
        · refine fun i h hi => ?_
          rcases Nat.lt_or_eq_of_le (Nat.le_of_lt_succ hi) with h1 | h1
          · exact hJ i h h1
          · subst h1
            rw [hb]
            rfl
        · rw [wrap_add k (by omega)]
          rfl
    · have : k = l.length := by omega
      subst this
      rw [dif_neg hkn, dif_neg hkn, decide_eq_false hkn]
      refine ⟨.exit [some (.p 0 0)] [⟨true, 51, [.int .i64 wi, .int .i64 pi, .slice A l.length c]⟩], ⟨[], [], [(decide ((l.length : Int) < (l.length : Int)), false)]⟩, by kernel_rfl, ⟨fun x hx => (by cases hx), fun x hx => (by cases hx), fun p hp => by rw [List.mem_singleton.1 hp]; simp⟩, [.p 0 0], rfl, rfl, fun Q hQ => ?_⟩
      exact hQ.1 (decide_eq_true fun i h => hJ i h h)
set_option maxRecDepth 100000 in
theorem goes_any (x : Bh) (w : World) (hx : x.Ok w) : Calls Try.prog 32 #[.agg x.cells.toArray] w fun e w' => e = .returned (.bool (goesB x)) ∧ Below w.heap.size w w' := by
  obtain ⟨wi, pi, ⟨v, l⟩⟩ := x
  obtain ⟨A, c, rfl⟩ : ∃ A c, v = .slice A l.length c := by obtain ⟨A, c, e, _⟩ := hx.policies.1; exact ⟨A, c, e⟩
  have hL := goes_loop wi pi A c l w hx.policies (row_len hx.policies (by decide))
  refine px_calls (f := 32) (fn := Try.f32) (args := [.v (.agg (⟨wi, pi, ⟨.slice A l.length c, l⟩⟩ : Bh).cells.toArray)]) (B := []) (ρ0 := fun _ => (0, 0)) (H := (rlHyp Try.prog aggR w 55 (fun _ => none) 0 [⟨true, 51, [.int .i64 wi, .int .i64 pi, .slice A l.length c]⟩] (mkF [1] [.p 0 0]) (mkF [2] [.v (.bool false)]) (allAt (fun k x => !(((decide (x.value < 1) || decide (1000000 < x.value)) || decide (x.period < 1)) || decide (1800 < x.period))) l))) aggR_ok (fun _ _ _ _ h => h) (by kernel_rfl) Try.func32 rfl (by kernel_rfl) (by show (1 : Nat) ≤ 55; decide) rfl (by simp [SV.lt]) trivial (Nat.le_refl _) (fun i b hb => by simp at hb) (fun _ => [8, 6, 7, 1, 2])
    ⟨[], [(0, .loop (loopBody Try.f32 0), [some (.v (.int .i64 0)), some (.v (.slice A l.length c)), some (.v (.int .i64 (l.length : Int))), some (.p 0 0), some (.v (.bool false))], [⟨true, 51, [.int .i64 wi, .int .i64 pi, .slice A l.length c]⟩])], []⟩ [.v (pickV (polOk l) (.bool ((((decide (0 ≤ wi) && decide (wi ≤ 1800)) && decide (0 ≤ pi)) && decide (pi ≤ 2)) && decide ((l.length : Int) ≤ 4))) (.bool false))] (by kernel_rfl) ⟨fun x hx => (by cases hx), fun q hq => by rw [List.mem_singleton.1 hq]; exact hL, fun p hp => (by cases hp)⟩ (fun ρ w' _ hb => ⟨by rw [res_and]; rfl, hb⟩)
end Go.Proofs.Ytlhaiflebigdlaa
end
section
namespace Go.Proofs.Ytlhaiflebigdlaa
open Go.RowKit Go.Proofs.Mem
set_option linter.unusedVariables false
set_option linter.unusedSimpArgs false
def dS (b : Bool) (x : Done) : Bool := (((((b && decide (0 ≤ x.at')) && decide (x.at' ≤ 4611686018427387904)) && decide (0 ≤ x.from')) && decide (x.from' ≤ 1000000)) && decide (0 ≤ x.to')) && decide (x.to' ≤ 1000000)
def dT (b : Bool) (l : List Done) (k : Nat) (h : k < l.length) : Bool := dS b l[k] && (match k, h with
  | 0, _ => true
  | j + 1, h => ((((j + 1 : Nat) : Int) == 0) || decide ((l[j]'(by omega)).at' ≤ l[j + 1].at')))
def accP (b : Bool) (l : List Done) : Nat → Bool
  | 0 => b
  | k + 1 => if h : k < l.length then dT (accP b l k) l k h else false
theorem accP_succ {b : Bool} {l : List Done} {k : Nat} (h : k < l.length) : accP b l (k + 1) = dT (accP b l k) l k h := by
  show (if h : k < l.length then dT (accP b l k) l k h else false) = _
  rw [dif_pos h]
def mT (b : Bool) (x : Met) : Bool := (((((b && decide (0 ≤ x.kind)) && decide (x.kind ≤ 3)) && nmB x.name) && whB x.target) && (x.target != 0)) && (((x.kind != 0) || isS x.name ⟨#[99, 112, 117]⟩) || isS x.name ⟨#[109, 101, 109]⟩)
def accM (b : Bool) (l : List Met) : Nat → Bool
  | 0 => b
  | k + 1 => if h : k < l.length then mT (accM b l k) l[k] else false
theorem accM_succ {b : Bool} {l : List Met} {k : Nat} (h : k < l.length) : accM b l (k + 1) = mT (accM b l k) l[k] := by
  show (if h : k < l.length then mT (accM b l k) l[k] else false) = _
  rw [dif_pos h]
def mayH0 (em : Bool) (x : Hp) : Bool := (((((((((em && nmB x.target) && decide (1 ≤ x.min)) && decide (x.min ≤ x.max)) && decide (x.max ≤ 1000000)) && decide (1 ≤ (x.metrics.l.length : Int))) && decide ((x.metrics.l.length : Int) ≤ 4)) && decide (0 ≤ x.tolerance)) && decide (x.tolerance ≤ 1000)) && goesB x.up) && goesB x.down
def mayH (em : Bool) (x : Hp) : Bool := accM (accP (mayH0 em x) x.past.l x.past.l.length && decide ((x.past.l.length : Int) ≤ 32)) x.metrics.l x.metrics.l.length
def r4Hyp (P : Program) (agg : BinOp → TypeId → Array Value → Array Value → Option Value) (w : World) (call : Nat → Option SV) (B : List Blk) (b1 b2 : Bool) : Hyp :=
  ⟨⟨P, [], agg, call, 392, litIn []⟩, w, fun _ => True, 0, [], fun i => match Nat.beq i 1 with
    | true => some fun _ => .done .normal ⟨mkF [3, 8] [.v (.bool b1), .p 1 0], B⟩
    | false => match Nat.beq i 3 with
      | true => some fun _ => .done .normal ⟨mkF [3] [.v (.bool b2)], B⟩
      | false => none, litIn [20, 29, 57, 125, 165, 219], fun _ => none⟩
def r4ks (i : Nat) : List Nat := match Nat.beq i 1 with
  | true => [281, 279, 280, 3, 8]
  | false => [344, 342, 343, 3]
set_option maxRecDepth 100000 in
theorem r4_mets (A : Option Addr) (c : Nat) (l : List Met) (w : World) (call : Nat → Option SV) (B0 : Blk) (cs : List Value) (b b1 b2 : Bool) (hb : accM b l l.length = b2) (hr : MetsOk w ⟨.slice A l.length c, l⟩) (hl : l.length ≤ 140737488355328) :
    LoopSpec (r4Hyp Try.prog aggR w call [B0, ⟨true, 54, cs⟩] b1 b2) r4ks (3, .loop (loopBody Try.f20 3), [some (.v (.int .i64 0)), some (.v (.slice A l.length c)), some (.v (.int .i64 (l.length : Int))), some (.v (.bool (accM b l 0)))], [B0, ⟨true, 54, cs⟩]) := by
  refine px_loop (H := r4Hyp Try.prog aggR w call [B0, ⟨true, 54, cs⟩] b1 b2) (K := .i64) aggR_ok (fun _ _ _ _ h => h) (by kernel_rfl) rfl r4ks (kx := [3]) (kr := []) rfl l.length 2 (fun _ => True) trivial (fun k => [.v (.slice A l.length c), .v (.int .i64 (l.length : Int)), .v (.bool (accM b l k))]) (fun _ => [B0, ⟨true, 54, cs⟩])
    (fun k => if h : k < l.length then some (⟨false, 99, Met.cells l[k]⟩, match A with | some ad => (ad.block, ad.off + k * 3) | none => (0, 0)) else none)
    (fun k => if h : k < l.length then callTab [(346, .p 2 0), (362, .v (.bool (nmB l[k].name))), (367, .v (.bool (whB l[k].target)))] else callTab [])
    (fun _ => litIn []) (fun k s => match Nat.beq s 345 with | true => some (decide (k < l.length)) | false => none)
    (fun _ _ => rfl) (fun _ _ => rfl) ?_ (Nat.zero_le _) ?_
  · intro k x hx
    split at hx
    · rename_i hkn
      obtain ⟨b', o, c', e, hb', hrg⟩ := row_range (r := ⟨.slice A l.length c, l⟩) (s := 3) (by decide) (fun _ => rfl) hr (Nat.lt_of_le_of_lt (Nat.zero_le _) hkn)
      simp only [Value.slice.injEq] at e
      obtain ⟨rfl, -, -⟩ := e
      simp only [Option.some.injEq] at hx
      subst hx
      exact ⟨rfl, hb', elem_range (f := Met.cells) (s := 3) (fun _ => rfl) hrg k hkn⟩
    · cases hx
  · intro k hk _
    by_cases hkn : k < l.length
    · obtain ⟨b', o, c', e, hb', hrg⟩ := row_range (r := ⟨.slice A l.length c, l⟩) (s := 3) (by decide) (fun _ => rfl) hr (Nat.lt_of_le_of_lt (Nat.zero_le _) hkn)
      simp only [Value.slice.injEq] at e
      obtain ⟨rfl, -, -⟩ := e
      have hw := hr.2.2 _ (List.getElem_mem hkn)
      rw [dif_pos hkn, dif_pos hkn, decide_eq_true hkn]
      refine ⟨.norm [some (.v (.int .i64 (IntKind.i64.wrap ((k : Int) + 1)))), some (.v (.slice (some ⟨b', o, none⟩) l.length c)), some (.v (.int .i64 (l.length : Int))), some (.v (.bool (mT (accM b l k) l[k])))] [B0, ⟨true, 54, cs⟩],
        ⟨[.op (fun ρ => do pure (.value (← Instr.indexAt 48 (.slice (some ⟨b', o, none⟩) l.length c) (.int .i64 (k : Int))))) (.p 2 0), .call 27 [.v (.string l[k].name)] (.v (.bool (nmB l[k].name))), .call 33 [.v (.int .i64 l[k].target)] (.v (.bool (whB l[k].target)))], [], [(decide ((k : Int) < (l.length : Int)), true)]⟩, by kernel_rfl, ⟨?_, ?_, ?_⟩, hkn, trivial, ?_, rfl⟩
      · refine paid2_cons (paid_index (s := 3) (by kernel_rfl) (show (Try.prog.info? 99).map (·.size) = some 3 by kernel_rfl) hkn fun ρ hX => ?_) (paid2_cons (fun ρ _ w1 hb => (name_any _ w1 hw.2.1).mono fun e w' ⟨h1, h2⟩ => ⟨h1, h2 ▸ Below.refl _ _⟩) (paid2_cons (fun ρ _ w1 hb => (whole_any _ w1).mono fun e w' ⟨h1, h2⟩ => ⟨h1, h2 ▸ Below.refl _ _⟩) paid2_nil))
        rw [hX.2 _ rfl]
        exact ⟨rfl, rfl⟩
      · exact fun q hq => by cases hq
      · exact fun p hp => by rw [List.mem_singleton.1 hp]; exact decide_eq_true (Int.ofNat_lt.2 hkn)
      · rw [wrap_add k (by omega), accM_succ hkn]
        rfl
    · have : k = l.length := by omega
      subst this
      rw [dif_neg hkn, dif_neg hkn, decide_eq_false hkn]
      refine ⟨.exit [some (.v (.bool (accM b l l.length)))] [B0, ⟨true, 54, cs⟩], ⟨[], [], [(decide ((l.length : Int) < (l.length : Int)), false)]⟩, by kernel_rfl, ⟨fun x hx => (by cases hx), fun x hx => (by cases hx), fun p hp => by rw [List.mem_singleton.1 hp]; simp⟩, [.v (.bool (accM b l l.length))], rfl, rfl, fun Q hQ => ?_⟩
      rw [hb]
      exact hQ
set_option maxRecDepth 100000 in
theorem r4_past (A : Option Addr) (c : Nat) (l : List Done) (w : World) (call : Nat → Option SV) (B0 : Blk) (cs : List Value) (b b1 b2 : Bool) (hb : accP b l l.length = b1) (a0 a1 a2 a3 a4 a5 a6 a7 a8 a9 a10 : Value) (hcs : cs = [a0, a1, a2, a3, a4, a5, a6, a7, a8, a9, a10, .slice A l.length c]) (hr : DonesOk w ⟨.slice A l.length c, l⟩) (hl : l.length ≤ 140737488355328) :
    LoopSpec (r4Hyp Try.prog aggR w call [B0, ⟨true, 54, cs⟩] b1 b2) r4ks (1, .loop (loopBody Try.f20 1), [some (.v (.int .i64 0)), some (.v (.slice A l.length c)), some (.v (.int .i64 (l.length : Int))), some (.v (.bool (accP b l 0))), some (.p 1 0)], [B0, ⟨true, 54, cs⟩]) := by
  subst hcs
  refine px_loop (H := r4Hyp Try.prog aggR w call [B0, ⟨true, 54, [a0, a1, a2, a3, a4, a5, a6, a7, a8, a9, a10, .slice A l.length c]⟩] b1 b2) (K := .i64) aggR_ok (fun _ _ _ _ h => h) (by kernel_rfl) rfl r4ks (kx := [3, 8]) (kr := []) rfl l.length 2 (fun _ => True) trivial (fun k => [.v (.slice A l.length c), .v (.int .i64 (l.length : Int)), .v (.bool (accP b l k)), .p 1 0]) (fun _ => [B0, ⟨true, 54, [a0, a1, a2, a3, a4, a5, a6, a7, a8, a9, a10, .slice A l.length c]⟩])
    (fun k => if h : k < l.length then (match k, h with
      | 0, h => some (⟨false, 97, Done.cells l[0]⟩, match A with | some ad => (ad.block, ad.off) | none => (0, 0))
      | j + 1, h => some (⟨false, 97, Done.cells (l[j]'(by omega)) ++ Done.cells l[j + 1]⟩, match A with | some ad => (ad.block, ad.off + j * 3) | none => (0, 0))) else none)
    (fun k => if h : k < l.length then (match k with | 0 => callTab [(284, .p 2 0)] | _ + 1 => callTab [(284, .p 2 3), (325, .p 2 0)]) else callTab [])
    (fun k => litIn (match k with | 0 => [320] | _ + 1 => [])) (fun k s => match Nat.beq s 282 with | true => some (decide (k < l.length)) | false => none)
    (fun _ _ => rfl) (fun _ _ => rfl) ?_ (Nat.zero_le _) ?_
  · intro k x hx
    split at hx
    · rename_i hkn
      obtain ⟨b', o, c', e, hb', hrg⟩ := row_range (r := ⟨.slice A l.length c, l⟩) (s := 3) (by decide) (fun _ => rfl) hr (Nat.lt_of_le_of_lt (Nat.zero_le _) hkn)
      simp only [Value.slice.injEq] at e
      obtain ⟨rfl, -, -⟩ := e
      cases k with
      | zero =>
        simp only [Option.some.injEq] at hx
        subst hx
        exact ⟨rfl, hb', by have := elem_range (f := Done.cells) (s := 3) (fun _ => rfl) hrg 0 hkn; rw [Nat.zero_mul, Nat.add_zero] at this; exact this⟩
      | succ j =>
        simp only [Option.some.injEq] at hx
        subst hx
        exact ⟨rfl, hb', two_range (f := Done.cells) (s := 3) (fun _ => rfl) hrg j hkn⟩
    · cases hx
  · intro k hk _
    by_cases hkn : k < l.length
    · obtain ⟨b', o, c', e, hb', hrg⟩ := row_range (r := ⟨.slice A l.length c, l⟩) (s := 3) (by decide) (fun _ => rfl) hr (Nat.lt_of_le_of_lt (Nat.zero_le _) hkn)
      simp only [Value.slice.injEq] at e
      obtain ⟨rfl, -, -⟩ := e
      cases k with
      | zero =>
        rw [dif_pos hkn, dif_pos hkn, decide_eq_true hkn]
        refine ⟨.norm [some (.v (.int .i64 (IntKind.i64.wrap (((0 : Nat) : Int) + 1)))), some (.v (.slice (some ⟨b', o, none⟩) l.length c)), some (.v (.int .i64 (l.length : Int))), some (.v (.bool (dS (accP b l 0) l[0] && true))), some (.p 1 0)] [B0, ⟨true, 54, [a0, a1, a2, a3, a4, a5, a6, a7, a8, a9, a10, .slice (some ⟨b', o, none⟩) l.length c]⟩],
          ⟨[.op (fun ρ => do pure (.value (← Instr.indexAt 52 (.slice (some ⟨b', o, none⟩) l.length c) (.int .i64 ((0 : Nat) : Int))))) (.p 2 0)], [], [(decide (((0 : Nat) : Int) < (l.length : Int)), true)]⟩, by kernel_rfl, ⟨?_, ?_, ?_⟩, hkn, trivial, ?_, rfl⟩
        · refine paid2_cons (paid_index (s := 3) (by kernel_rfl) done_sz hkn fun ρ hX => ?_) paid2_nil
          rw [hX.2 _ rfl]
          exact ⟨rfl, by simp⟩
        · exact fun q hq => by cases hq
        · exact fun p hp => by rw [List.mem_singleton.1 hp]; exact decide_eq_true (Int.ofNat_lt.2 hkn)
        · rw [wrap_add 0 (by omega), accP_succ hkn]
          rfl
      | succ j =>
        rw [dif_pos hkn, dif_pos hkn, decide_eq_true hkn]
        refine ⟨.norm [some (.v (.int .i64 (IntKind.i64.wrap (((j + 1 : Nat) : Int) + 1)))), some (.v (.slice (some ⟨b', o, none⟩) l.length c)), some (.v (.int .i64 (l.length : Int))), some (.v (.bool (dS (accP b l (j + 1)) l[j + 1] && ((((j + 1 : Nat) : Int) == 0) || decide (l[j].at' ≤ l[j + 1].at'))))), some (.p 1 0)] [B0, ⟨true, 54, [a0, a1, a2, a3, a4, a5, a6, a7, a8, a9, a10, .slice (some ⟨b', o, none⟩) l.length c]⟩],
          ⟨[.op (fun ρ => do pure (.value (← Instr.indexAt 52 (.slice (some ⟨b', o, none⟩) l.length c) (.int .i64 ((j + 1 : Nat) : Int))))) (.p 2 3), .op (fun ρ => do pure (.value (← Instr.indexAt 52 (.slice (some ⟨b', o, none⟩) l.length c) (.int .i64 (IntKind.i64.wrap (((j + 1 : Nat) : Int) - 1)))))) (.p 2 0)], [], [(decide (((j + 1 : Nat) : Int) < (l.length : Int)), true)]⟩, by kernel_rfl, ⟨?_, ?_, ?_⟩, hkn, trivial, ?_, rfl⟩
        · refine paid2_cons (paid_index (s := 3) (by kernel_rfl) done_sz hkn fun ρ hX => ?_) (paid2_cons ?_ paid2_nil)
          · rw [hX.2 _ rfl]
            exact ⟨rfl, by simp only [Nat.succ_mul]; omega⟩
          · rw [wrap_sub j (by omega)]
            refine paid_index (s := 3) (by kernel_rfl) done_sz (Nat.lt_of_succ_lt hkn) fun ρ hX => ?_
            rw [hX.2 _ rfl]
            exact ⟨rfl, rfl⟩
        · exact fun q hq => by cases hq
        · exact fun p hp => by rw [List.mem_singleton.1 hp]; exact decide_eq_true (Int.ofNat_lt.2 hkn)
        · rw [wrap_add (j + 1) (by omega), accP_succ hkn]
          rfl
    · have : k = l.length := by omega
      subst this
      rw [dif_neg hkn, dif_neg hkn, decide_eq_false hkn]
      refine ⟨.exit [some (.v (.bool (accP b l l.length))), some (.p 1 0)] [B0, ⟨true, 54, [a0, a1, a2, a3, a4, a5, a6, a7, a8, a9, a10, .slice A l.length c]⟩], ⟨[], [], [(decide ((l.length : Int) < (l.length : Int)), false)]⟩, by kernel_rfl, ⟨fun x hx => (by cases hx), fun x hx => (by cases hx), fun p hp => by rw [List.mem_singleton.1 hp]; simp⟩, [.v (.bool (accP b l l.length)), .p 1 0], rfl, rfl, fun Q hQ => ?_⟩
      rw [hb]
      exact hQ
set_option maxRecDepth 100000 in
theorem right_hp (o : Ob) (w : World) (ho : o.Ok w) (hk : o.kind = 4) : Calls Try.prog 20 #[.agg o.cells.toArray] w fun e w' => e = .returned (.int .i64 (errN o.name (mayH (emptyB o) o.h))) ∧ Below w.heap.size w w' := by
  obtain ⟨kind, name, version, ⟨w0, w1, w2, ⟨vw3, lw3⟩, ⟨vw4, lw4⟩, ⟨vw5, lw5⟩, w6⟩, ⟨p0, p1, p2, p3, p4, p5, ⟨vp6, lp6⟩, ⟨vp7, lp7⟩, ⟨vp8, lp8⟩, p9⟩, ⟨n0, n1, n2, ⟨vn3, ln3⟩, ⟨vn4, ln4⟩, n5, n6⟩, ⟨g0, g1, g2, g3, g4, ⟨vg5, lg5⟩, ⟨vg6, lg6⟩, g7⟩, ⟨h0, h1, h2, ⟨vh3, lh3⟩, h4, ⟨h5, h6, ⟨vh7, lh7⟩⟩, ⟨h8, h9, ⟨vh10, lh10⟩⟩, ⟨vh11, lh11⟩⟩⟩ := o
  obtain ⟨Aw3, cw3, rfl⟩ : ∃ A c, vw3 = .slice A lw3.length c := by obtain ⟨A, c, e, _⟩ := ho.w.labels.1; exact ⟨A, c, e⟩
  obtain ⟨Aw4, cw4, rfl⟩ : ∃ A c, vw4 = .slice A lw4.length c := by obtain ⟨A, c, e, _⟩ := ho.w.select.1; exact ⟨A, c, e⟩
  obtain ⟨Aw5, cw5, rfl⟩ : ∃ A c, vw5 = .slice A lw5.length c := by obtain ⟨A, c, e, _⟩ := ho.w.tolerate.1; exact ⟨A, c, e⟩
  obtain ⟨Ap6, cp6, rfl⟩ : ∃ A c, vp6 = .slice A lp6.length c := by obtain ⟨A, c, e, _⟩ := ho.p.labels.1; exact ⟨A, c, e⟩
  obtain ⟨Ap7, cp7, rfl⟩ : ∃ A c, vp7 = .slice A lp7.length c := by obtain ⟨A, c, e, _⟩ := ho.p.select.1; exact ⟨A, c, e⟩
  obtain ⟨Ap8, cp8, rfl⟩ : ∃ A c, vp8 = .slice A lp8.length c := by obtain ⟨A, c, e, _⟩ := ho.p.tolerate.1; exact ⟨A, c, e⟩
  obtain ⟨An3, cn3, rfl⟩ : ∃ A c, vn3 = .slice A ln3.length c := by obtain ⟨A, c, e, _⟩ := ho.n.labels.1; exact ⟨A, c, e⟩
  obtain ⟨An4, cn4, rfl⟩ : ∃ A c, vn4 = .slice A ln4.length c := by obtain ⟨A, c, e, _⟩ := ho.n.taints.1; exact ⟨A, c, e⟩
  obtain ⟨Ag5, cg5, rfl⟩ : ∃ A c, vg5 = .slice A lg5.length c := by obtain ⟨A, c, e, _⟩ := ho.g.labels.1; exact ⟨A, c, e⟩
  obtain ⟨Ag6, cg6, rfl⟩ : ∃ A c, vg6 = .slice A lg6.length c := by obtain ⟨A, c, e, _⟩ := ho.g.taints.1; exact ⟨A, c, e⟩
  obtain ⟨Ah3, ch3, rfl⟩ : ∃ A c, vh3 = .slice A lh3.length c := by obtain ⟨A, c, e, _⟩ := ho.h.metrics.1; exact ⟨A, c, e⟩
  obtain ⟨Ah7, ch7, rfl⟩ : ∃ A c, vh7 = .slice A lh7.length c := by obtain ⟨A, c, e, _⟩ := ho.h.up.policies.1; exact ⟨A, c, e⟩
  obtain ⟨Ah10, ch10, rfl⟩ : ∃ A c, vh10 = .slice A lh10.length c := by obtain ⟨A, c, e, _⟩ := ho.h.down.policies.1; exact ⟨A, c, e⟩
  obtain ⟨Ah11, ch11, rfl⟩ : ∃ A c, vh11 = .slice A lh11.length c := by obtain ⟨A, c, e, _⟩ := ho.h.past.1; exact ⟨A, c, e⟩
  simp only at hk
  subst hk
  have hL1 := r4_past Ah11 ch11 lh11 w (callTab [(23, .v (.bool (nmB name))), (26, .v (.bool (emptyB (Ob.mk 4 name version (⟨w0, w1, w2, ⟨.slice Aw3 lw3.length cw3, lw3⟩, ⟨.slice Aw4 lw4.length cw4, lw4⟩, ⟨.slice Aw5 lw5.length cw5, lw5⟩, w6⟩ : Wl) (⟨p0, p1, p2, p3, p4, p5, ⟨.slice Ap6 lp6.length cp6, lp6⟩, ⟨.slice Ap7 lp7.length cp7, lp7⟩, ⟨.slice Ap8 lp8.length cp8, lp8⟩, p9⟩ : Pd) (⟨n0, n1, n2, ⟨.slice An3 ln3.length cn3, ln3⟩, ⟨.slice An4 ln4.length cn4, ln4⟩, n5, n6⟩ : Nd) (⟨g0, g1, g2, g3, g4, ⟨.slice Ag5 lg5.length cg5, lg5⟩, ⟨.slice Ag6 lg6.length cg6, lg6⟩, g7⟩ : Gr) (⟨h0, h1, h2, ⟨.slice Ah3 lh3.length ch3, lh3⟩, h4, ⟨h5, h6, ⟨.slice Ah7 lh7.length ch7, lh7⟩⟩, ⟨h8, h9, ⟨.slice Ah10 lh10.length ch10, lh10⟩⟩, ⟨.slice Ah11 lh11.length ch11, lh11⟩⟩ : Hp))))), (227, .v (.bool (nmB h0))), (271, .v (.bool (goesB (⟨h5, h6, ⟨.slice Ah7 lh7.length ch7, lh7⟩⟩ : Bh)))), (276, .v (.bool (goesB (⟨h8, h9, ⟨.slice Ah10 lh10.length ch10, lh10⟩⟩ : Bh))))]) ⟨true, 56, ((Ob.mk 4 name version (⟨w0, w1, w2, ⟨.slice Aw3 lw3.length cw3, lw3⟩, ⟨.slice Aw4 lw4.length cw4, lw4⟩, ⟨.slice Aw5 lw5.length cw5, lw5⟩, w6⟩ : Wl) (⟨p0, p1, p2, p3, p4, p5, ⟨.slice Ap6 lp6.length cp6, lp6⟩, ⟨.slice Ap7 lp7.length cp7, lp7⟩, ⟨.slice Ap8 lp8.length cp8, lp8⟩, p9⟩ : Pd) (⟨n0, n1, n2, ⟨.slice An3 ln3.length cn3, ln3⟩, ⟨.slice An4 ln4.length cn4, ln4⟩, n5, n6⟩ : Nd) (⟨g0, g1, g2, g3, g4, ⟨.slice Ag5 lg5.length cg5, lg5⟩, ⟨.slice Ag6 lg6.length cg6, lg6⟩, g7⟩ : Gr) (⟨h0, h1, h2, ⟨.slice Ah3 lh3.length ch3, lh3⟩, h4, ⟨h5, h6, ⟨.slice Ah7 lh7.length ch7, lh7⟩⟩, ⟨h8, h9, ⟨.slice Ah10 lh10.length ch10, lh10⟩⟩, ⟨.slice Ah11 lh11.length ch11, lh11⟩⟩ : Hp))).cells⟩ [.string h0, .int .i64 h1, .int .i64 h2, .slice Ah3 lh3.length ch3, .int .i64 h4, .int .i64 h5, .int .i64 h6, .slice Ah7 lh7.length ch7, .int .i64 h8, .int .i64 h9, .slice Ah10 lh10.length ch10, .slice Ah11 lh11.length ch11] (mayH0 (emptyB (Ob.mk 4 name version (⟨w0, w1, w2, ⟨.slice Aw3 lw3.length cw3, lw3⟩, ⟨.slice Aw4 lw4.length cw4, lw4⟩, ⟨.slice Aw5 lw5.length cw5, lw5⟩, w6⟩ : Wl) (⟨p0, p1, p2, p3, p4, p5, ⟨.slice Ap6 lp6.length cp6, lp6⟩, ⟨.slice Ap7 lp7.length cp7, lp7⟩, ⟨.slice Ap8 lp8.length cp8, lp8⟩, p9⟩ : Pd) (⟨n0, n1, n2, ⟨.slice An3 ln3.length cn3, ln3⟩, ⟨.slice An4 ln4.length cn4, ln4⟩, n5, n6⟩ : Nd) (⟨g0, g1, g2, g3, g4, ⟨.slice Ag5 lg5.length cg5, lg5⟩, ⟨.slice Ag6 lg6.length cg6, lg6⟩, g7⟩ : Gr) (⟨h0, h1, h2, ⟨.slice Ah3 lh3.length ch3, lh3⟩, h4, ⟨h5, h6, ⟨.slice Ah7 lh7.length ch7, lh7⟩⟩, ⟨h8, h9, ⟨.slice Ah10 lh10.length ch10, lh10⟩⟩, ⟨.slice Ah11 lh11.length ch11, lh11⟩⟩ : Hp))) (⟨h0, h1, h2, ⟨.slice Ah3 lh3.length ch3, lh3⟩, h4, ⟨h5, h6, ⟨.slice Ah7 lh7.length ch7, lh7⟩⟩, ⟨h8, h9, ⟨.slice Ah10 lh10.length ch10, lh10⟩⟩, ⟨.slice Ah11 lh11.length ch11, lh11⟩⟩ : Hp)) (accP (mayH0 (emptyB (Ob.mk 4 name version (⟨w0, w1, w2, ⟨.slice Aw3 lw3.length cw3, lw3⟩, ⟨.slice Aw4 lw4.length cw4, lw4⟩, ⟨.slice Aw5 lw5.length cw5, lw5⟩, w6⟩ : Wl) (⟨p0, p1, p2, p3, p4, p5, ⟨.slice Ap6 lp6.length cp6, lp6⟩, ⟨.slice Ap7 lp7.length cp7, lp7⟩, ⟨.slice Ap8 lp8.length cp8, lp8⟩, p9⟩ : Pd) (⟨n0, n1, n2, ⟨.slice An3 ln3.length cn3, ln3⟩, ⟨.slice An4 ln4.length cn4, ln4⟩, n5, n6⟩ : Nd) (⟨g0, g1, g2, g3, g4, ⟨.slice Ag5 lg5.length cg5, lg5⟩, ⟨.slice Ag6 lg6.length cg6, lg6⟩, g7⟩ : Gr) (⟨h0, h1, h2, ⟨.slice Ah3 lh3.length ch3, lh3⟩, h4, ⟨h5, h6, ⟨.slice Ah7 lh7.length ch7, lh7⟩⟩, ⟨h8, h9, ⟨.slice Ah10 lh10.length ch10, lh10⟩⟩, ⟨.slice Ah11 lh11.length ch11, lh11⟩⟩ : Hp))) (⟨h0, h1, h2, ⟨.slice Ah3 lh3.length ch3, lh3⟩, h4, ⟨h5, h6, ⟨.slice Ah7 lh7.length ch7, lh7⟩⟩, ⟨h8, h9, ⟨.slice Ah10 lh10.length ch10, lh10⟩⟩, ⟨.slice Ah11 lh11.length ch11, lh11⟩⟩ : Hp)) lh11 lh11.length) (accM ((accP (mayH0 (emptyB (Ob.mk 4 name version (⟨w0, w1, w2, ⟨.slice Aw3 lw3.length cw3, lw3⟩, ⟨.slice Aw4 lw4.length cw4, lw4⟩, ⟨.slice Aw5 lw5.length cw5, lw5⟩, w6⟩ : Wl) (⟨p0, p1, p2, p3, p4, p5, ⟨.slice Ap6 lp6.length cp6, lp6⟩, ⟨.slice Ap7 lp7.length cp7, lp7⟩, ⟨.slice Ap8 lp8.length cp8, lp8⟩, p9⟩ : Pd) (⟨n0, n1, n2, ⟨.slice An3 ln3.length cn3, ln3⟩, ⟨.slice An4 ln4.length cn4, ln4⟩, n5, n6⟩ : Nd) (⟨g0, g1, g2, g3, g4, ⟨.slice Ag5 lg5.length cg5, lg5⟩, ⟨.slice Ag6 lg6.length cg6, lg6⟩, g7⟩ : Gr) (⟨h0, h1, h2, ⟨.slice Ah3 lh3.length ch3, lh3⟩, h4, ⟨h5, h6, ⟨.slice Ah7 lh7.length ch7, lh7⟩⟩, ⟨h8, h9, ⟨.slice Ah10 lh10.length ch10, lh10⟩⟩, ⟨.slice Ah11 lh11.length ch11, lh11⟩⟩ : Hp))) (⟨h0, h1, h2, ⟨.slice Ah3 lh3.length ch3, lh3⟩, h4, ⟨h5, h6, ⟨.slice Ah7 lh7.length ch7, lh7⟩⟩, ⟨h8, h9, ⟨.slice Ah10 lh10.length ch10, lh10⟩⟩, ⟨.slice Ah11 lh11.length ch11, lh11⟩⟩ : Hp)) lh11 lh11.length) && decide ((lh11.length : Int) ≤ 32)) lh3 lh3.length) rfl (.string h0) (.int .i64 h1) (.int .i64 h2) (.slice Ah3 lh3.length ch3) (.int .i64 h4) (.int .i64 h5) (.int .i64 h6) (.slice Ah7 lh7.length ch7) (.int .i64 h8) (.int .i64 h9) (.slice Ah10 lh10.length ch10) rfl ho.h.past (row_len ho.h.past (by decide))
  have hL2 := r4_mets Ah3 ch3 lh3 w (callTab [(23, .v (.bool (nmB name))), (26, .v (.bool (emptyB (Ob.mk 4 name version (⟨w0, w1, w2, ⟨.slice Aw3 lw3.length cw3, lw3⟩, ⟨.slice Aw4 lw4.length cw4, lw4⟩, ⟨.slice Aw5 lw5.length cw5, lw5⟩, w6⟩ : Wl) (⟨p0, p1, p2, p3, p4, p5, ⟨.slice Ap6 lp6.length cp6, lp6⟩, ⟨.slice Ap7 lp7.length cp7, lp7⟩, ⟨.slice Ap8 lp8.length cp8, lp8⟩, p9⟩ : Pd) (⟨n0, n1, n2, ⟨.slice An3 ln3.length cn3, ln3⟩, ⟨.slice An4 ln4.length cn4, ln4⟩, n5, n6⟩ : Nd) (⟨g0, g1, g2, g3, g4, ⟨.slice Ag5 lg5.length cg5, lg5⟩, ⟨.slice Ag6 lg6.length cg6, lg6⟩, g7⟩ : Gr) (⟨h0, h1, h2, ⟨.slice Ah3 lh3.length ch3, lh3⟩, h4, ⟨h5, h6, ⟨.slice Ah7 lh7.length ch7, lh7⟩⟩, ⟨h8, h9, ⟨.slice Ah10 lh10.length ch10, lh10⟩⟩, ⟨.slice Ah11 lh11.length ch11, lh11⟩⟩ : Hp))))), (227, .v (.bool (nmB h0))), (271, .v (.bool (goesB (⟨h5, h6, ⟨.slice Ah7 lh7.length ch7, lh7⟩⟩ : Bh)))), (276, .v (.bool (goesB (⟨h8, h9, ⟨.slice Ah10 lh10.length ch10, lh10⟩⟩ : Bh))))]) ⟨true, 56, ((Ob.mk 4 name version (⟨w0, w1, w2, ⟨.slice Aw3 lw3.length cw3, lw3⟩, ⟨.slice Aw4 lw4.length cw4, lw4⟩, ⟨.slice Aw5 lw5.length cw5, lw5⟩, w6⟩ : Wl) (⟨p0, p1, p2, p3, p4, p5, ⟨.slice Ap6 lp6.length cp6, lp6⟩, ⟨.slice Ap7 lp7.length cp7, lp7⟩, ⟨.slice Ap8 lp8.length cp8, lp8⟩, p9⟩ : Pd) (⟨n0, n1, n2, ⟨.slice An3 ln3.length cn3, ln3⟩, ⟨.slice An4 ln4.length cn4, ln4⟩, n5, n6⟩ : Nd) (⟨g0, g1, g2, g3, g4, ⟨.slice Ag5 lg5.length cg5, lg5⟩, ⟨.slice Ag6 lg6.length cg6, lg6⟩, g7⟩ : Gr) (⟨h0, h1, h2, ⟨.slice Ah3 lh3.length ch3, lh3⟩, h4, ⟨h5, h6, ⟨.slice Ah7 lh7.length ch7, lh7⟩⟩, ⟨h8, h9, ⟨.slice Ah10 lh10.length ch10, lh10⟩⟩, ⟨.slice Ah11 lh11.length ch11, lh11⟩⟩ : Hp))).cells⟩ [.string h0, .int .i64 h1, .int .i64 h2, .slice Ah3 lh3.length ch3, .int .i64 h4, .int .i64 h5, .int .i64 h6, .slice Ah7 lh7.length ch7, .int .i64 h8, .int .i64 h9, .slice Ah10 lh10.length ch10, .slice Ah11 lh11.length ch11] ((accP (mayH0 (emptyB (Ob.mk 4 name version (⟨w0, w1, w2, ⟨.slice Aw3 lw3.length cw3, lw3⟩, ⟨.slice Aw4 lw4.length cw4, lw4⟩, ⟨.slice Aw5 lw5.length cw5, lw5⟩, w6⟩ : Wl) (⟨p0, p1, p2, p3, p4, p5, ⟨.slice Ap6 lp6.length cp6, lp6⟩, ⟨.slice Ap7 lp7.length cp7, lp7⟩, ⟨.slice Ap8 lp8.length cp8, lp8⟩, p9⟩ : Pd) (⟨n0, n1, n2, ⟨.slice An3 ln3.length cn3, ln3⟩, ⟨.slice An4 ln4.length cn4, ln4⟩, n5, n6⟩ : Nd) (⟨g0, g1, g2, g3, g4, ⟨.slice Ag5 lg5.length cg5, lg5⟩, ⟨.slice Ag6 lg6.length cg6, lg6⟩, g7⟩ : Gr) (⟨h0, h1, h2, ⟨.slice Ah3 lh3.length ch3, lh3⟩, h4, ⟨h5, h6, ⟨.slice Ah7 lh7.length ch7, lh7⟩⟩, ⟨h8, h9, ⟨.slice Ah10 lh10.length ch10, lh10⟩⟩, ⟨.slice Ah11 lh11.length ch11, lh11⟩⟩ : Hp))) (⟨h0, h1, h2, ⟨.slice Ah3 lh3.length ch3, lh3⟩, h4, ⟨h5, h6, ⟨.slice Ah7 lh7.length ch7, lh7⟩⟩, ⟨h8, h9, ⟨.slice Ah10 lh10.length ch10, lh10⟩⟩, ⟨.slice Ah11 lh11.length ch11, lh11⟩⟩ : Hp)) lh11 lh11.length) && decide ((lh11.length : Int) ≤ 32)) (accP (mayH0 (emptyB (Ob.mk 4 name version (⟨w0, w1, w2, ⟨.slice Aw3 lw3.length cw3, lw3⟩, ⟨.slice Aw4 lw4.length cw4, lw4⟩, ⟨.slice Aw5 lw5.length cw5, lw5⟩, w6⟩ : Wl) (⟨p0, p1, p2, p3, p4, p5, ⟨.slice Ap6 lp6.length cp6, lp6⟩, ⟨.slice Ap7 lp7.length cp7, lp7⟩, ⟨.slice Ap8 lp8.length cp8, lp8⟩, p9⟩ : Pd) (⟨n0, n1, n2, ⟨.slice An3 ln3.length cn3, ln3⟩, ⟨.slice An4 ln4.length cn4, ln4⟩, n5, n6⟩ : Nd) (⟨g0, g1, g2, g3, g4, ⟨.slice Ag5 lg5.length cg5, lg5⟩, ⟨.slice Ag6 lg6.length cg6, lg6⟩, g7⟩ : Gr) (⟨h0, h1, h2, ⟨.slice Ah3 lh3.length ch3, lh3⟩, h4, ⟨h5, h6, ⟨.slice Ah7 lh7.length ch7, lh7⟩⟩, ⟨h8, h9, ⟨.slice Ah10 lh10.length ch10, lh10⟩⟩, ⟨.slice Ah11 lh11.length ch11, lh11⟩⟩ : Hp))) (⟨h0, h1, h2, ⟨.slice Ah3 lh3.length ch3, lh3⟩, h4, ⟨h5, h6, ⟨.slice Ah7 lh7.length ch7, lh7⟩⟩, ⟨h8, h9, ⟨.slice Ah10 lh10.length ch10, lh10⟩⟩, ⟨.slice Ah11 lh11.length ch11, lh11⟩⟩ : Hp)) lh11 lh11.length) (accM ((accP (mayH0 (emptyB (Ob.mk 4 name version (⟨w0, w1, w2, ⟨.slice Aw3 lw3.length cw3, lw3⟩, ⟨.slice Aw4 lw4.length cw4, lw4⟩, ⟨.slice Aw5 lw5.length cw5, lw5⟩, w6⟩ : Wl) (⟨p0, p1, p2, p3, p4, p5, ⟨.slice Ap6 lp6.length cp6, lp6⟩, ⟨.slice Ap7 lp7.length cp7, lp7⟩, ⟨.slice Ap8 lp8.length cp8, lp8⟩, p9⟩ : Pd) (⟨n0, n1, n2, ⟨.slice An3 ln3.length cn3, ln3⟩, ⟨.slice An4 ln4.length cn4, ln4⟩, n5, n6⟩ : Nd) (⟨g0, g1, g2, g3, g4, ⟨.slice Ag5 lg5.length cg5, lg5⟩, ⟨.slice Ag6 lg6.length cg6, lg6⟩, g7⟩ : Gr) (⟨h0, h1, h2, ⟨.slice Ah3 lh3.length ch3, lh3⟩, h4, ⟨h5, h6, ⟨.slice Ah7 lh7.length ch7, lh7⟩⟩, ⟨h8, h9, ⟨.slice Ah10 lh10.length ch10, lh10⟩⟩, ⟨.slice Ah11 lh11.length ch11, lh11⟩⟩ : Hp))) (⟨h0, h1, h2, ⟨.slice Ah3 lh3.length ch3, lh3⟩, h4, ⟨h5, h6, ⟨.slice Ah7 lh7.length ch7, lh7⟩⟩, ⟨h8, h9, ⟨.slice Ah10 lh10.length ch10, lh10⟩⟩, ⟨.slice Ah11 lh11.length ch11, lh11⟩⟩ : Hp)) lh11 lh11.length) && decide ((lh11.length : Int) ≤ 32)) lh3 lh3.length) rfl ho.h.metrics (row_len ho.h.metrics (by decide))
  refine px_calls (f := 20) (fn := Try.f20) (args := [.v (.agg ((Ob.mk 4 name version (⟨w0, w1, w2, ⟨.slice Aw3 lw3.length cw3, lw3⟩, ⟨.slice Aw4 lw4.length cw4, lw4⟩, ⟨.slice Aw5 lw5.length cw5, lw5⟩, w6⟩ : Wl) (⟨p0, p1, p2, p3, p4, p5, ⟨.slice Ap6 lp6.length cp6, lp6⟩, ⟨.slice Ap7 lp7.length cp7, lp7⟩, ⟨.slice Ap8 lp8.length cp8, lp8⟩, p9⟩ : Pd) (⟨n0, n1, n2, ⟨.slice An3 ln3.length cn3, ln3⟩, ⟨.slice An4 ln4.length cn4, ln4⟩, n5, n6⟩ : Nd) (⟨g0, g1, g2, g3, g4, ⟨.slice Ag5 lg5.length cg5, lg5⟩, ⟨.slice Ag6 lg6.length cg6, lg6⟩, g7⟩ : Gr) (⟨h0, h1, h2, ⟨.slice Ah3 lh3.length ch3, lh3⟩, h4, ⟨h5, h6, ⟨.slice Ah7 lh7.length ch7, lh7⟩⟩, ⟨h8, h9, ⟨.slice Ah10 lh10.length ch10, lh10⟩⟩, ⟨.slice Ah11 lh11.length ch11, lh11⟩⟩ : Hp))).cells.toArray)]) (B := []) (ρ0 := fun _ => (0, 0)) (H := r4Hyp Try.prog aggR w (callTab [(23, .v (.bool (nmB name))), (26, .v (.bool (emptyB (Ob.mk 4 name version (⟨w0, w1, w2, ⟨.slice Aw3 lw3.length cw3, lw3⟩, ⟨.slice Aw4 lw4.length cw4, lw4⟩, ⟨.slice Aw5 lw5.length cw5, lw5⟩, w6⟩ : Wl) (⟨p0, p1, p2, p3, p4, p5, ⟨.slice Ap6 lp6.length cp6, lp6⟩, ⟨.slice Ap7 lp7.length cp7, lp7⟩, ⟨.slice Ap8 lp8.length cp8, lp8⟩, p9⟩ : Pd) (⟨n0, n1, n2, ⟨.slice An3 ln3.length cn3, ln3⟩, ⟨.slice An4 ln4.length cn4, ln4⟩, n5, n6⟩ : Nd) (⟨g0, g1, g2, g3, g4, ⟨.slice Ag5 lg5.length cg5, lg5⟩, ⟨.slice Ag6 lg6.length cg6, lg6⟩, g7⟩ : Gr) (⟨h0, h1, h2, ⟨.slice Ah3 lh3.length ch3, lh3⟩, h4, ⟨h5, h6, ⟨.slice Ah7 lh7.length ch7, lh7⟩⟩, ⟨h8, h9, ⟨.slice Ah10 lh10.length ch10, lh10⟩⟩, ⟨.slice Ah11 lh11.length ch11, lh11⟩⟩ : Hp))))), (227, .v (.bool (nmB h0))), (271, .v (.bool (goesB (⟨h5, h6, ⟨.slice Ah7 lh7.length ch7, lh7⟩⟩ : Bh)))), (276, .v (.bool (goesB (⟨h8, h9, ⟨.slice Ah10 lh10.length ch10, lh10⟩⟩ : Bh))))]) [⟨true, 56, ((Ob.mk 4 name version (⟨w0, w1, w2, ⟨.slice Aw3 lw3.length cw3, lw3⟩, ⟨.slice Aw4 lw4.length cw4, lw4⟩, ⟨.slice Aw5 lw5.length cw5, lw5⟩, w6⟩ : Wl) (⟨p0, p1, p2, p3, p4, p5, ⟨.slice Ap6 lp6.length cp6, lp6⟩, ⟨.slice Ap7 lp7.length cp7, lp7⟩, ⟨.slice Ap8 lp8.length cp8, lp8⟩, p9⟩ : Pd) (⟨n0, n1, n2, ⟨.slice An3 ln3.length cn3, ln3⟩, ⟨.slice An4 ln4.length cn4, ln4⟩, n5, n6⟩ : Nd) (⟨g0, g1, g2, g3, g4, ⟨.slice Ag5 lg5.length cg5, lg5⟩, ⟨.slice Ag6 lg6.length cg6, lg6⟩, g7⟩ : Gr) (⟨h0, h1, h2, ⟨.slice Ah3 lh3.length ch3, lh3⟩, h4, ⟨h5, h6, ⟨.slice Ah7 lh7.length ch7, lh7⟩⟩, ⟨h8, h9, ⟨.slice Ah10 lh10.length ch10, lh10⟩⟩, ⟨.slice Ah11 lh11.length ch11, lh11⟩⟩ : Hp))).cells⟩, ⟨true, 54, [.string h0, .int .i64 h1, .int .i64 h2, .slice Ah3 lh3.length ch3, .int .i64 h4, .int .i64 h5, .int .i64 h6, .slice Ah7 lh7.length ch7, .int .i64 h8, .int .i64 h9, .slice Ah10 lh10.length ch10, .slice Ah11 lh11.length ch11]⟩] (accP (mayH0 (emptyB (Ob.mk 4 name version (⟨w0, w1, w2, ⟨.slice Aw3 lw3.length cw3, lw3⟩, ⟨.slice Aw4 lw4.length cw4, lw4⟩, ⟨.slice Aw5 lw5.length cw5, lw5⟩, w6⟩ : Wl) (⟨p0, p1, p2, p3, p4, p5, ⟨.slice Ap6 lp6.length cp6, lp6⟩, ⟨.slice Ap7 lp7.length cp7, lp7⟩, ⟨.slice Ap8 lp8.length cp8, lp8⟩, p9⟩ : Pd) (⟨n0, n1, n2, ⟨.slice An3 ln3.length cn3, ln3⟩, ⟨.slice An4 ln4.length cn4, ln4⟩, n5, n6⟩ : Nd) (⟨g0, g1, g2, g3, g4, ⟨.slice Ag5 lg5.length cg5, lg5⟩, ⟨.slice Ag6 lg6.length cg6, lg6⟩, g7⟩ : Gr) (⟨h0, h1, h2, ⟨.slice Ah3 lh3.length ch3, lh3⟩, h4, ⟨h5, h6, ⟨.slice Ah7 lh7.length ch7, lh7⟩⟩, ⟨h8, h9, ⟨.slice Ah10 lh10.length ch10, lh10⟩⟩, ⟨.slice Ah11 lh11.length ch11, lh11⟩⟩ : Hp))) (⟨h0, h1, h2, ⟨.slice Ah3 lh3.length ch3, lh3⟩, h4, ⟨h5, h6, ⟨.slice Ah7 lh7.length ch7, lh7⟩⟩, ⟨h8, h9, ⟨.slice Ah10 lh10.length ch10, lh10⟩⟩, ⟨.slice Ah11 lh11.length ch11, lh11⟩⟩ : Hp)) lh11 lh11.length) (accM ((accP (mayH0 (emptyB (Ob.mk 4 name version (⟨w0, w1, w2, ⟨.slice Aw3 lw3.length cw3, lw3⟩, ⟨.slice Aw4 lw4.length cw4, lw4⟩, ⟨.slice Aw5 lw5.length cw5, lw5⟩, w6⟩ : Wl) (⟨p0, p1, p2, p3, p4, p5, ⟨.slice Ap6 lp6.length cp6, lp6⟩, ⟨.slice Ap7 lp7.length cp7, lp7⟩, ⟨.slice Ap8 lp8.length cp8, lp8⟩, p9⟩ : Pd) (⟨n0, n1, n2, ⟨.slice An3 ln3.length cn3, ln3⟩, ⟨.slice An4 ln4.length cn4, ln4⟩, n5, n6⟩ : Nd) (⟨g0, g1, g2, g3, g4, ⟨.slice Ag5 lg5.length cg5, lg5⟩, ⟨.slice Ag6 lg6.length cg6, lg6⟩, g7⟩ : Gr) (⟨h0, h1, h2, ⟨.slice Ah3 lh3.length ch3, lh3⟩, h4, ⟨h5, h6, ⟨.slice Ah7 lh7.length ch7, lh7⟩⟩, ⟨h8, h9, ⟨.slice Ah10 lh10.length ch10, lh10⟩⟩, ⟨.slice Ah11 lh11.length ch11, lh11⟩⟩ : Hp))) (⟨h0, h1, h2, ⟨.slice Ah3 lh3.length ch3, lh3⟩, h4, ⟨h5, h6, ⟨.slice Ah7 lh7.length ch7, lh7⟩⟩, ⟨h8, h9, ⟨.slice Ah10 lh10.length ch10, lh10⟩⟩, ⟨.slice Ah11 lh11.length ch11, lh11⟩⟩ : Hp)) lh11 lh11.length) && decide ((lh11.length : Int) ≤ 32)) lh3 lh3.length)) aggR_ok (fun _ _ _ _ h => h) (by kernel_rfl) Try.func20 rfl (by kernel_rfl) (by show (1 : Nat) ≤ 392; decide) rfl (by simp [SV.lt]) trivial (Nat.le_refl _) (fun i b hb => by simp at hb) r4ks
    ⟨[.call 27 [.v (.string name)] (.v (.bool (nmB name))), .call 28 [.v (.agg ((Ob.mk 4 name version (⟨w0, w1, w2, ⟨.slice Aw3 lw3.length cw3, lw3⟩, ⟨.slice Aw4 lw4.length cw4, lw4⟩, ⟨.slice Aw5 lw5.length cw5, lw5⟩, w6⟩ : Wl) (⟨p0, p1, p2, p3, p4, p5, ⟨.slice Ap6 lp6.length cp6, lp6⟩, ⟨.slice Ap7 lp7.length cp7, lp7⟩, ⟨.slice Ap8 lp8.length cp8, lp8⟩, p9⟩ : Pd) (⟨n0, n1, n2, ⟨.slice An3 ln3.length cn3, ln3⟩, ⟨.slice An4 ln4.length cn4, ln4⟩, n5, n6⟩ : Nd) (⟨g0, g1, g2, g3, g4, ⟨.slice Ag5 lg5.length cg5, lg5⟩, ⟨.slice Ag6 lg6.length cg6, lg6⟩, g7⟩ : Gr) (⟨h0, h1, h2, ⟨.slice Ah3 lh3.length ch3, lh3⟩, h4, ⟨h5, h6, ⟨.slice Ah7 lh7.length ch7, lh7⟩⟩, ⟨h8, h9, ⟨.slice Ah10 lh10.length ch10, lh10⟩⟩, ⟨.slice Ah11 lh11.length ch11, lh11⟩⟩ : Hp))).cells.toArray)] (.v (.bool (emptyB (Ob.mk 4 name version (⟨w0, w1, w2, ⟨.slice Aw3 lw3.length cw3, lw3⟩, ⟨.slice Aw4 lw4.length cw4, lw4⟩, ⟨.slice Aw5 lw5.length cw5, lw5⟩, w6⟩ : Wl) (⟨p0, p1, p2, p3, p4, p5, ⟨.slice Ap6 lp6.length cp6, lp6⟩, ⟨.slice Ap7 lp7.length cp7, lp7⟩, ⟨.slice Ap8 lp8.length cp8, lp8⟩, p9⟩ : Pd) (⟨n0, n1, n2, ⟨.slice An3 ln3.length cn3, ln3⟩, ⟨.slice An4 ln4.length cn4, ln4⟩, n5, n6⟩ : Nd) (⟨g0, g1, g2, g3, g4, ⟨.slice Ag5 lg5.length cg5, lg5⟩, ⟨.slice Ag6 lg6.length cg6, lg6⟩, g7⟩ : Gr) (⟨h0, h1, h2, ⟨.slice Ah3 lh3.length ch3, lh3⟩, h4, ⟨h5, h6, ⟨.slice Ah7 lh7.length ch7, lh7⟩⟩, ⟨h8, h9, ⟨.slice Ah10 lh10.length ch10, lh10⟩⟩, ⟨.slice Ah11 lh11.length ch11, lh11⟩⟩ : Hp))))), .call 27 [.v (.string h0)] (.v (.bool (nmB h0))), .call 32 [.v (.agg (⟨h5, h6, ⟨.slice Ah7 lh7.length ch7, lh7⟩⟩ : Bh).cells.toArray)] (.v (.bool (goesB (⟨h5, h6, ⟨.slice Ah7 lh7.length ch7, lh7⟩⟩ : Bh)))), .call 32 [.v (.agg (⟨h8, h9, ⟨.slice Ah10 lh10.length ch10, lh10⟩⟩ : Bh).cells.toArray)] (.v (.bool (goesB (⟨h8, h9, ⟨.slice Ah10 lh10.length ch10, lh10⟩⟩ : Bh))))],
      [(1, .loop (loopBody Try.f20 1), [some (.v (.int .i64 0)), some (.v (.slice Ah11 lh11.length ch11)), some (.v (.int .i64 (lh11.length : Int))), some (.v (.bool (mayH0 (emptyB (Ob.mk 4 name version (⟨w0, w1, w2, ⟨.slice Aw3 lw3.length cw3, lw3⟩, ⟨.slice Aw4 lw4.length cw4, lw4⟩, ⟨.slice Aw5 lw5.length cw5, lw5⟩, w6⟩ : Wl) (⟨p0, p1, p2, p3, p4, p5, ⟨.slice Ap6 lp6.length cp6, lp6⟩, ⟨.slice Ap7 lp7.length cp7, lp7⟩, ⟨.slice Ap8 lp8.length cp8, lp8⟩, p9⟩ : Pd) (⟨n0, n1, n2, ⟨.slice An3 ln3.length cn3, ln3⟩, ⟨.slice An4 ln4.length cn4, ln4⟩, n5, n6⟩ : Nd) (⟨g0, g1, g2, g3, g4, ⟨.slice Ag5 lg5.length cg5, lg5⟩, ⟨.slice Ag6 lg6.length cg6, lg6⟩, g7⟩ : Gr) (⟨h0, h1, h2, ⟨.slice Ah3 lh3.length ch3, lh3⟩, h4, ⟨h5, h6, ⟨.slice Ah7 lh7.length ch7, lh7⟩⟩, ⟨h8, h9, ⟨.slice Ah10 lh10.length ch10, lh10⟩⟩, ⟨.slice Ah11 lh11.length ch11, lh11⟩⟩ : Hp))) (⟨h0, h1, h2, ⟨.slice Ah3 lh3.length ch3, lh3⟩, h4, ⟨h5, h6, ⟨.slice Ah7 lh7.length ch7, lh7⟩⟩, ⟨h8, h9, ⟨.slice Ah10 lh10.length ch10, lh10⟩⟩, ⟨.slice Ah11 lh11.length ch11, lh11⟩⟩ : Hp)))), some (.p 1 0)], [⟨true, 56, ((Ob.mk 4 name version (⟨w0, w1, w2, ⟨.slice Aw3 lw3.length cw3, lw3⟩, ⟨.slice Aw4 lw4.length cw4, lw4⟩, ⟨.slice Aw5 lw5.length cw5, lw5⟩, w6⟩ : Wl) (⟨p0, p1, p2, p3, p4, p5, ⟨.slice Ap6 lp6.length cp6, lp6⟩, ⟨.slice Ap7 lp7.length cp7, lp7⟩, ⟨.slice Ap8 lp8.length cp8, lp8⟩, p9⟩ : Pd) (⟨n0, n1, n2, ⟨.slice An3 ln3.length cn3, ln3⟩, ⟨.slice An4 ln4.length cn4, ln4⟩, n5, n6⟩ : Nd) (⟨g0, g1, g2, g3, g4, ⟨.slice Ag5 lg5.length cg5, lg5⟩, ⟨.slice Ag6 lg6.length cg6, lg6⟩, g7⟩ : Gr) (⟨h0, h1, h2, ⟨.slice Ah3 lh3.length ch3, lh3⟩, h4, ⟨h5, h6, ⟨.slice Ah7 lh7.length ch7, lh7⟩⟩, ⟨h8, h9, ⟨.slice Ah10 lh10.length ch10, lh10⟩⟩, ⟨.slice Ah11 lh11.length ch11, lh11⟩⟩ : Hp))).cells⟩, ⟨true, 54, [.string h0, .int .i64 h1, .int .i64 h2, .slice Ah3 lh3.length ch3, .int .i64 h4, .int .i64 h5, .int .i64 h6, .slice Ah7 lh7.length ch7, .int .i64 h8, .int .i64 h9, .slice Ah10 lh10.length ch10, .slice Ah11 lh11.length ch11]⟩]),
       (3, .loop (loopBody Try.f20 3), [some (.v (.int .i64 0)), some (.v (.slice Ah3 lh3.length ch3)), some (.v (.int .i64 (lh3.length : Int))), some (.v (.bool ((accP (mayH0 (emptyB (Ob.mk 4 name version (⟨w0, w1, w2, ⟨.slice Aw3 lw3.length cw3, lw3⟩, ⟨.slice Aw4 lw4.length cw4, lw4⟩, ⟨.slice Aw5 lw5.length cw5, lw5⟩, w6⟩ : Wl) (⟨p0, p1, p2, p3, p4, p5, ⟨.slice Ap6 lp6.length cp6, lp6⟩, ⟨.slice Ap7 lp7.length cp7, lp7⟩, ⟨.slice Ap8 lp8.length cp8, lp8⟩, p9⟩ : Pd) (⟨n0, n1, n2, ⟨.slice An3 ln3.length cn3, ln3⟩, ⟨.slice An4 ln4.length cn4, ln4⟩, n5, n6⟩ : Nd) (⟨g0, g1, g2, g3, g4, ⟨.slice Ag5 lg5.length cg5, lg5⟩, ⟨.slice Ag6 lg6.length cg6, lg6⟩, g7⟩ : Gr) (⟨h0, h1, h2, ⟨.slice Ah3 lh3.length ch3, lh3⟩, h4, ⟨h5, h6, ⟨.slice Ah7 lh7.length ch7, lh7⟩⟩, ⟨h8, h9, ⟨.slice Ah10 lh10.length ch10, lh10⟩⟩, ⟨.slice Ah11 lh11.length ch11, lh11⟩⟩ : Hp))) (⟨h0, h1, h2, ⟨.slice Ah3 lh3.length ch3, lh3⟩, h4, ⟨h5, h6, ⟨.slice Ah7 lh7.length ch7, lh7⟩⟩, ⟨h8, h9, ⟨.slice Ah10 lh10.length ch10, lh10⟩⟩, ⟨.slice Ah11 lh11.length ch11, lh11⟩⟩ : Hp)) lh11 lh11.length) && decide ((lh11.length : Int) ≤ 32))))], [⟨true, 56, ((Ob.mk 4 name version (⟨w0, w1, w2, ⟨.slice Aw3 lw3.length cw3, lw3⟩, ⟨.slice Aw4 lw4.length cw4, lw4⟩, ⟨.slice Aw5 lw5.length cw5, lw5⟩, w6⟩ : Wl) (⟨p0, p1, p2, p3, p4, p5, ⟨.slice Ap6 lp6.length cp6, lp6⟩, ⟨.slice Ap7 lp7.length cp7, lp7⟩, ⟨.slice Ap8 lp8.length cp8, lp8⟩, p9⟩ : Pd) (⟨n0, n1, n2, ⟨.slice An3 ln3.length cn3, ln3⟩, ⟨.slice An4 ln4.length cn4, ln4⟩, n5, n6⟩ : Nd) (⟨g0, g1, g2, g3, g4, ⟨.slice Ag5 lg5.length cg5, lg5⟩, ⟨.slice Ag6 lg6.length cg6, lg6⟩, g7⟩ : Gr) (⟨h0, h1, h2, ⟨.slice Ah3 lh3.length ch3, lh3⟩, h4, ⟨h5, h6, ⟨.slice Ah7 lh7.length ch7, lh7⟩⟩, ⟨h8, h9, ⟨.slice Ah10 lh10.length ch10, lh10⟩⟩, ⟨.slice Ah11 lh11.length ch11, lh11⟩⟩ : Hp))).cells⟩, ⟨true, 54, [.string h0, .int .i64 h1, .int .i64 h2, .slice Ah3 lh3.length ch3, .int .i64 h4, .int .i64 h5, .int .i64 h6, .slice Ah7 lh7.length ch7, .int .i64 h8, .int .i64 h9, .slice Ah10 lh10.length ch10, .slice Ah11 lh11.length ch11]⟩])], []⟩ [.v (rightV name (accM ((accP (mayH0 (emptyB (Ob.mk 4 name version (⟨w0, w1, w2, ⟨.slice Aw3 lw3.length cw3, lw3⟩, ⟨.slice Aw4 lw4.length cw4, lw4⟩, ⟨.slice Aw5 lw5.length cw5, lw5⟩, w6⟩ : Wl) (⟨p0, p1, p2, p3, p4, p5, ⟨.slice Ap6 lp6.length cp6, lp6⟩, ⟨.slice Ap7 lp7.length cp7, lp7⟩, ⟨.slice Ap8 lp8.length cp8, lp8⟩, p9⟩ : Pd) (⟨n0, n1, n2, ⟨.slice An3 ln3.length cn3, ln3⟩, ⟨.slice An4 ln4.length cn4, ln4⟩, n5, n6⟩ : Nd) (⟨g0, g1, g2, g3, g4, ⟨.slice Ag5 lg5.length cg5, lg5⟩, ⟨.slice Ag6 lg6.length cg6, lg6⟩, g7⟩ : Gr) (⟨h0, h1, h2, ⟨.slice Ah3 lh3.length ch3, lh3⟩, h4, ⟨h5, h6, ⟨.slice Ah7 lh7.length ch7, lh7⟩⟩, ⟨h8, h9, ⟨.slice Ah10 lh10.length ch10, lh10⟩⟩, ⟨.slice Ah11 lh11.length ch11, lh11⟩⟩ : Hp))) (⟨h0, h1, h2, ⟨.slice Ah3 lh3.length ch3, lh3⟩, h4, ⟨h5, h6, ⟨.slice Ah7 lh7.length ch7, lh7⟩⟩, ⟨h8, h9, ⟨.slice Ah10 lh10.length ch10, lh10⟩⟩, ⟨.slice Ah11 lh11.length ch11, lh11⟩⟩ : Hp)) lh11 lh11.length) && decide ((lh11.length : Int) ≤ 32)) lh3 lh3.length))] (by kernel_rfl) ⟨?_, fun q hq => ?_, fun p hp => (by cases hp)⟩ (fun ρ w' _ hb => ⟨?_, hb⟩)
  · exact paid2_cons (fun ρ _ w1 hb => (name_any name w1 ho.name).mono fun e w' ⟨h1, h2⟩ => ⟨h1, h2 ▸ Below.refl _ _⟩) (paid2_cons (fun ρ _ w1 hb => empty_any _ w1 (ho.below hb)) (paid2_cons (fun ρ _ w1 hb => (name_any _ w1 ho.h.target).mono fun e w' ⟨h1, h2⟩ => ⟨h1, h2 ▸ Below.refl _ _⟩) (paid2_cons (fun ρ _ w1 hb => goes_any _ w1 (ho.h.up.below hb)) (paid2_cons (fun ρ _ w1 hb => goes_any _ w1 (ho.h.down.below hb)) paid2_nil))))
  · rcases List.mem_cons.1 hq with rfl | hq
    · exact hL1
    · rw [List.mem_singleton.1 hq]
      exact hL2
  · show Ending.returned (rightV name _) = _
    rw [rightV_eq]
    rfl
end Go.Proofs.Ytlhaiflebigdlaa
end
section
namespace Go.Proofs.Ytlhaiflebigdlaa
open Go.RowKit Go.Proofs.Mem
set_option linter.unusedVariables false
set_option linter.unusedSimpArgs false
theorem less_trans : ∀ {x y z : List UInt8}, Op.bytesLess x y = true → Op.bytesLess y z = true → Op.bytesLess x z = true
  | [], [], _, h, _ => by simp [Op.bytesLess] at h
  | [], _ :: _, [], _, h => by simp [Op.bytesLess] at h
  | [], _ :: _, _ :: _, _, _ => by simp [Op.bytesLess]
  | _ :: _, [], _, h, _ => by simp [Op.bytesLess] at h
  | _ :: _, _ :: _, [], _, h => by simp [Op.bytesLess] at h
  | a :: x, b :: y, c :: z, h1, h2 => by
    simp only [Op.bytesLess, Bool.or_eq_true, Bool.and_eq_true, decide_eq_true_eq, beq_iff_eq] at h1 h2 ⊢
    rcases h1 with h1 | ⟨rfl, h1⟩
    · rcases h2 with h2 | ⟨rfl, h2⟩
      · left; exact UInt8.lt_trans h1 h2
      · left; exact h1
    · rcases h2 with h2 | ⟨rfl, h2⟩
      · left; exact h2
      · right; exact ⟨rfl, less_trans h1 h2⟩
theorem strE_eq (s : ByteArray) : strE s = decide (s = ByteArray.empty) := by
  unfold strE
  have e0 : (⟨#[]⟩ : ByteArray).toList = [] := by rw [ByteArray.toList_eq]
  rw [e0]
  by_cases h : s = ByteArray.empty
  · subst h
    rw [show (ByteArray.empty : ByteArray).toList = [] from e0, decide_eq_true rfl]
    rfl
  · rw [decide_eq_false h]
    exact str_ne' h
theorem kv_eq (k v : ByteArray) : (nmB k && vlB v) = kvB k v := by
  unfold kvB vlB
  rw [strE_eq]
theorem lrAt_zero {l : List Lab} (h : 0 < l.length) : lrAt l 0 h = (nmB l[0].key && vlB l[0].value) := by
  show (!((!(nmB l[0].key) || !(vlB l[0].value)) || false)) = _
  cases nmB l[0].key <;> cases vlB l[0].value <;> rfl
theorem lrAt_succ {l : List Lab} (j : Nat) (h : j + 1 < l.length) : lrAt l (j + 1) h = ((nmB l[j + 1].key && vlB l[j + 1].value) && lessB l[j].key l[j + 1].key) := by
  show (!((!(nmB l[j + 1].key) || !(vlB l[j + 1].value)) || !(lessB l[j].key l[j + 1].key))) = _
  cases nmB l[j + 1].key <;> cases vlB l[j + 1].value <;> cases lessB l[j].key l[j + 1].key <;> rfl
theorem lrOk_iff (l : List Lab) : lrOk l = decide (rtAll l) := by
  unfold lrOk
  apply decide_eq_decide.2
  constructor
  · intro h i hi
    have hkv : kvB l[i].key l[i].value = true := by
      rw [← kv_eq]
      cases i with
      | zero => have := h 0 hi; rw [lrAt_zero] at this; exact this
      | succ j =>
        have := h (j + 1) hi
        rw [lrAt_succ, Bool.and_eq_true] at this
        exact this.1
    refine ⟨hkv, ?_⟩
    clear hkv
    induction i with
    | zero => intro j hj; omega
    | succ i ih =>
      intro j hj
      have h1 := h (i + 1) hi
      rw [lrAt_succ, Bool.and_eq_true] at h1
      rcases Nat.lt_or_eq_of_le (Nat.le_of_lt_succ hj) with h2 | h2
      · exact less_trans (ih (by omega) j h2) h1.2
      · subst h2; exact h1.2
  · intro h k hk
    obtain ⟨h1, h2⟩ := h k hk
    rw [← kv_eq] at h1
    cases k with
    | zero => rw [lrAt_zero]; exact h1
    | succ j => rw [lrAt_succ, h1, h2 j (Nat.lt_succ_self _)]; rfl
theorem lrB_eq (l : List Lab) : lrB l = rtB l := by
  unfold lrB rtB
  rw [lrOk_iff]
  congr 1
  apply decide_eq_decide.2
  omega
theorem askB_eq (x : Req) : (!askB x) = rqB x := by
  unfold askB rqB
  rw [← kv_eq, ← strE_eq]
  by_cases h0 : x.op < 0
  · have e1 : ¬ (x.op = 0 ∨ x.op = 1) := by omega
    have e2 : ¬ (x.op = 2 ∨ x.op = 3) := by omega
    simp [h0, e1, e2]
  · by_cases h3 : 3 < x.op
    · have e1 : ¬ (x.op = 0 ∨ x.op = 1) := by omega
      have e2 : ¬ (x.op = 2 ∨ x.op = 3) := by omega
      simp [h3, e1, e2]
    · by_cases h2 : 2 ≤ x.op
      · have e1 : ¬ (x.op = 0 ∨ x.op = 1) := by omega
        have e2 : (x.op = 2 ∨ x.op = 3) := by omega
        simp only [h0, h3, h2, e1, e2, decide_true, decide_false, Bool.false_or, Bool.true_and]
        cases nmB x.key <;> cases vlB x.value <;> cases strE x.value <;> rfl
      · have e1 : (x.op = 0 ∨ x.op = 1) := by omega
        have e2 : ¬ (x.op = 2 ∨ x.op = 3) := by omega
        simp only [h0, h3, h2, e1, e2, decide_true, decide_false, Bool.false_or, Bool.false_and, Bool.or_false, Bool.true_or, Bool.and_true]
        cases nmB x.key <;> cases vlB x.value <;> rfl
theorem not_any {α : Type} (p q : α → Bool) (h : ∀ x, (!p x) = q x) : ∀ (l : List α), (!(l.any p)) = l.all q
  | [] => rfl
  | x :: r => by
    rw [List.any_cons, List.all_cons, Bool.not_or, not_any p q h r, h]
theorem aksB_eq (l : List Req) : caksB l = aksB l := by
  unfold caksB aksB
  rw [not_any askB rqB askB_eq]
  congr 1
  apply decide_eq_decide.2
  omega
theorem bet_eq (x lo hi : Int) : betB x lo hi = decide (lo ≤ x ∧ x ≤ hi) := by
  unfold betB
  by_cases h1 : lo ≤ x <;> by_cases h2 : x ≤ hi <;> simp [h1, h2]
theorem size_eq (c m : Int) : sizeB c m = szB c m := by
  unfold sizeB szB qrB whB
  rw [bet_eq, bet_eq]
  by_cases h1 : 0 ≤ c ∧ c ≤ 9007199254740992
  · by_cases h2 : c = 0
    · subst h2
      simp
    · have h3 : 0 < c := by omega
      simp [h1, h2, h3]
  · simp [h1]
theorem wants_eq (c m : Int) (L : List Lab) (S : List Req) (T : List Lab) (wm : Int) : cwantsB c m L S T wm = wantsB c m L S T wm := by
  unfold cwantsB wantsB
  rw [size_eq, lrB_eq, aksB_eq, lrB_eq, bet_eq]
  cases szB c m <;> cases rtB L <;> cases aksB S <;> cases rtB T <;> rfl
theorem emOk_eq (k : Int) (hk : 0 ≤ k ∧ k ≤ 4) (W P N G H : Bool) : emOk k (eAt W P N G H) = emAll k W P N G H := by
  have : emOk k (eAt W P N G H) = decide ((((0 : Int) != k) && !W) = false ∧ (((1 : Int) != k) && !P) = false ∧ (((2 : Int) != k) && !N) = false ∧ (((3 : Int) != k) && !G) = false ∧ (((4 : Int) != k) && !H) = false) := by
    unfold emOk
    apply decide_eq_decide.2
    constructor
    · exact fun h => ⟨h 0 (by decide), h 1 (by decide), h 2 (by decide), h 3 (by decide), h 4 (by decide)⟩
    · rintro ⟨h0, h1, h2, h3, h4⟩ i hi
      rcases i with _ | _ | _ | _ | _ | i
      · exact h0
      · exact h1
      · exact h2
      · exact h3
      · exact h4
      · omega
  rw [this]
  unfold emAll
  have hc : k = 0 ∨ k = 1 ∨ k = 2 ∨ k = 3 ∨ k = 4 := by omega
  rcases hc with rfl | rfl | rfl | rfl | rfl <;> cases W <;> cases P <;> cases N <;> cases G <;> cases H <;> rfl
end Go.Proofs.Ytlhaiflebigdlaa
end
