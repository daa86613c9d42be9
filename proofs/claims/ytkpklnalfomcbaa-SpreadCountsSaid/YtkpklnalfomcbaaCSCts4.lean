/-
  What trimtablaw07.Right says of any object of kind 4; valid.Check answers as trimtablaw07.Right: the plain law.; valid.Check answers as trimtablaw07.Right, at any object.; trimtablaw07.Right at any object; The walk of trimtablaw07.Few: whether an object's rows are few; Maps whose elements read as themselves, of whatever type: 'Mp' (block b is a map that holds D), what stands at a key ('valAt'), and the laws at the operations: look-up (without and with ok), store, delete, len; Spread, in plain words: places, and how many pods each has; Spread, in plain words: the fewest and the most that a place has, as the loops find them; Spread: what the two maps of spread.counts hold, by functions.; slices.IndexFunc at a row of labels, and label.Get; Spread: label.Get.; Spread: a node's place, by the program.; Spread: trimtabref05.Get, and a node's place by the law; Guards for arms of a walk: which operation is next; Spread: counts, the loop over the nodes (under way).; slices.Max, slices.Min of a row of numbers that isn't empty.
-/
import Derived.Test.YtkpklnalfomcbaaCSCts3
import Derived.Test.YtkpklnalfomcbaaCSCts1
import Derived.Maps.OwnOps
import Derived.Maps.OwnSet
import Derived.Maps.Ext
import Derived.Sort.KeysCollected
import Derived.Test.YtkpklnalfomcbaaProg
section
namespace Go.Proofs.Ytkpklnalfomcbaa
open Go.RowKit Go.Proofs.Mem
set_option linter.unusedVariables false
set_option linter.unusedSimpArgs false
def dS (b : Bool) (x : Done) : Bool := (((((b && decide (0 ≤ x.at')) && decide (x.at' ≤ 4611686018427387904)) && decide (0 ≤ x.from')) && decide (x.from' ≤ 1000000)) && decide (0 ≤ x.to')) && decide (x.to' ≤ 1000000)
def dT (b : Bool) (l : List Done) (k : Nat) (h : k < l.length) : Bool := dS b l[k] && (match k, h with
  | 0, _ => true
  | j + 1, h => ((((j + 1 : Nat) : Int) == 0) || decide ((l[j]'(by omega)).at' ≤ l[j + 1].at')))
def accP (b : Bool) (l : List Done) : Nat → Bool
  | 0 => b
  | k + 1 => if h : k < l.length then dT (accP b l k) l k h else false
theorem accP_succ {b : Bool} {l : List Done} {k : Nat} (h : k < l.length) : accP b l (k + 1) = dT (accP b l k) l k h := by
  show (if h : k < l.length then dT (accP b l k) l k h else false) = _
  rw [dif_pos h]
def mT (b : Bool) (x : Met) : Bool := (((((b && decide (0 ≤ x.kind)) && decide (x.kind ≤ 3)) && nmB x.name) && whB x.target) && (x.target != 0)) && (((x.kind != 0) || isS x.name ⟨#[99, 112, 117]⟩) || isS x.name ⟨#[109, 101, 109]⟩)
def accM (b : Bool) (l : List Met) : Nat → Bool
  | 0 => b
  | k + 1 => if h : k < l.length then mT (accM b l k) l[k] else false
theorem accM_succ {b : Bool} {l : List Met} {k : Nat} (h : k < l.length) : accM b l (k + 1) = mT (accM b l k) l[k] := by
  show (if h : k < l.length then mT (accM b l k) l[k] else false) = _
  rw [dif_pos h]
def mayH0 (em : Bool) (x : Hp) : Bool := (((((((((em && nmB x.target) && decide (1 ≤ x.min)) && decide (x.min ≤ x.max)) && decide (x.max ≤ 1000000)) && decide (1 ≤ (x.metrics.l.length : Int))) && decide ((x.metrics.l.length : Int) ≤ 4)) && decide (0 ≤ x.tolerance)) && decide (x.tolerance ≤ 1000)) && goesB x.up) && goesB x.down
def mayH (em : Bool) (x : Hp) : Bool := accM (accP (mayH0 em x) x.past.l x.past.l.length && decide ((x.past.l.length : Int) ≤ 32)) x.metrics.l x.metrics.l.length
def r4Hyp (P : Program) (agg : BinOp → TypeId → Array Value → Array Value → Option Value) (w : World) (call : Nat → Option SV) (B : List Blk) (b1 b2 : Bool) : Hyp :=
  ⟨⟨P, [], agg, call, 392, litIn []⟩, w, fun _ => True, 0, [], fun i => match Nat.beq i 1 with
    | true => some fun _ => .done .normal ⟨mkF [3, 8] [.v (.bool b1), .p 1 0], B⟩
    | false => match Nat.beq i 3 with
      | true => some fun _ => .done .normal ⟨mkF [3] [.v (.bool b2)], B⟩
      | false => none, litIn [20, 29, 57, 125, 165, 219], fun _ => none⟩
def r4ks (i : Nat) : List Nat := match Nat.beq i 1 with
  | true => [281, 279, 280, 3, 8]
  | false => [344, 342, 343, 3]
set_option maxRecDepth 100000 in
theorem r4_mets (A : Option Addr) (c : Nat) (l : List Met) (w : World) (call : Nat → Option SV) (B0 : Blk) (cs : List Value) (b b1 b2 : Bool) (hb : accM b l l.length = b2) (hr : MetsOk w ⟨.slice A l.length c, l⟩) (hl : l.length ≤ 140737488355328) :
    LoopSpec (r4Hyp Try.prog aggR w call [B0, ⟨true, 55, cs⟩] b1 b2) r4ks (3, .loop (loopBody Try.f20 3), [some (.v (.int .i64 0)), some (.v (.slice A l.length c)), some (.v (.int .i64 (l.length : Int))), some (.v (.bool (accM b l 0)))], [B0, ⟨true, 55, cs⟩]) := by
  refine px_loop (H := r4Hyp Try.prog aggR w call [B0, ⟨true, 55, cs⟩] b1 b2) (K := .i64) aggR_ok (fun _ _ _ _ h => h) (by kernel_rfl) rfl r4ks (kx := [3]) (kr := []) rfl l.length 2 (fun _ => True) trivial (fun k => [.v (.slice A l.length c), .v (.int .i64 (l.length : Int)), .v (.bool (accM b l k))]) (fun _ => [B0, ⟨true, 55, cs⟩])
    (fun k => if h : k < l.length then some (⟨false, 105, Met.cells l[k]⟩, match A with | some ad => (ad.block, ad.off + k * 3) | none => (0, 0)) else none)
    (fun k => if h : k < l.length then callTab [(346, .p 2 0), (362, .v (.bool (nmB l[k].name))), (367, .v (.bool (whB l[k].target)))] else callTab [])
    (fun _ => litIn []) (fun k s => match Nat.beq s 345 with | true => some (decide (k < l.length)) | false => none)
    (fun _ _ => rfl) (fun _ _ => rfl) ?_ (Nat.zero_le _) ?_
  · intro k x hx
    split at hx
    · rename_i hkn
      obtain ⟨b', o, c', e, hb', hrg⟩ := row_range (r := ⟨.slice A l.length c, l⟩) (s := 3) (by decide) (fun _ => rfl) hr (Nat.lt_of_le_of_lt (Nat.zero_le _) hkn)
      simp only [Value.slice.injEq] at e
      obtain ⟨rfl, -, -⟩ := e
      simp only [Option.some.injEq] at hx
      subst hx
      exact ⟨rfl, hb', elem_range (f := Met.cells) (s := 3) (fun _ => rfl) hrg k hkn⟩
    · cases hx
  · intro k hk _
    by_cases hkn : k < l.length
    · obtain ⟨b', o, c', e, hb', hrg⟩ := row_range (r := ⟨.slice A l.length c, l⟩) (s := 3) (by decide) (fun _ => rfl) hr (Nat.lt_of_le_of_lt (Nat.zero_le _) hkn)
      simp only [Value.slice.injEq] at e
      obtain ⟨rfl, -, -⟩ := e
      have hw := hr.2.2 _ (List.getElem_mem hkn)
      rw [dif_pos hkn, dif_pos hkn, decide_eq_true hkn]
      refine ⟨.norm [some (.v (.int .i64 (IntKind.i64.wrap ((k : Int) + 1)))), some (.v (.slice (some ⟨b', o, none⟩) l.length c)), some (.v (.int .i64 (l.length : Int))), some (.v (.bool (mT (accM b l k) l[k])))] [B0, ⟨true, 55, cs⟩],
        ⟨[.op (fun ρ => do pure (.value (← Instr.indexAt 49 (.slice (some ⟨b', o, none⟩) l.length c) (.int .i64 (k : Int))))) (.p 2 0), .call 21 [.v (.string l[k].name)] (.v (.bool (nmB l[k].name))), .call 42 [.v (.int .i64 l[k].target)] (.v (.bool (whB l[k].target)))], [], [(decide ((k : Int) < (l.length : Int)), true)]⟩, by kernel_rfl, ⟨?_, ?_, ?_⟩, hkn, trivial, ?_, rfl⟩
      · refine paid2_cons (paid_index (s := 3) (by kernel_rfl) (show (Try.prog.info? 105).map (·.size) = some 3 by kernel_rfl) hkn fun ρ hX => ?_) (paid2_cons (fun ρ _ w1 hb => (name_any _ w1 hw.2.1).mono fun e w' ⟨h1, h2⟩ => ⟨h1, h2 ▸ Below.refl _ _⟩) (paid2_cons (fun ρ _ w1 hb => (whole_any _ w1).mono fun e w' ⟨h1, h2⟩ => ⟨h1, h2 ▸ Below.refl _ _⟩) paid2_nil))
        rw [hX.2 _ rfl]
        exact ⟨rfl, rfl⟩
      · exact fun q hq => by cases hq
      · exact fun p hp => by rw [List.mem_singleton.1 hp]; exact decide_eq_true (Int.ofNat_lt.2 hkn)
      · rw [wrap_add k (by omega), accM_succ hkn]
        rfl
    · have : k = l.length := by omega
      subst this
      rw [dif_neg hkn, dif_neg hkn, decide_eq_false hkn]
      refine ⟨.exit [some (.v (.bool (accM b l l.length)))] [B0, ⟨true, 55, cs⟩], ⟨[], [], [(decide ((l.length : Int) < (l.length : Int)), false)]⟩, by kernel_rfl, ⟨fun x hx => (by cases hx), fun x hx => (by cases hx), fun p hp => by rw [List.mem_singleton.1 hp]; simp⟩, [.v (.bool (accM b l l.length))], rfl, rfl, fun Q hQ => ?_⟩
      rw [hb]
      exact hQ
set_option maxRecDepth 100000 in
theorem r4_past (A : Option Addr) (c : Nat) (l : List Done) (w : World) (call : Nat → Option SV) (B0 : Blk) (cs : List Value) (b b1 b2 : Bool) (hb : accP b l l.length = b1) (a0 a1 a2 a3 a4 a5 a6 a7 a8 a9 a10 : Value) (hcs : cs = [a0, a1, a2, a3, a4, a5, a6, a7, a8, a9, a10, .slice A l.length c]) (hr : DonesOk w ⟨.slice A l.length c, l⟩) (hl : l.length ≤ 140737488355328) :
    LoopSpec (r4Hyp Try.prog aggR w call [B0, ⟨true, 55, cs⟩] b1 b2) r4ks (1, .loop (loopBody Try.f20 1), [some (.v (.int .i64 0)), some (.v (.slice A l.length c)), some (.v (.int .i64 (l.length : Int))), some (.v (.bool (accP b l 0))), some (.p 1 0)], [B0, ⟨true, 55, cs⟩]) := by
  subst hcs
  refine px_loop (H := r4Hyp Try.prog aggR w call [B0, ⟨true, 55, [a0, a1, a2, a3, a4, a5, a6, a7, a8, a9, a10, .slice A l.length c]⟩] b1 b2) (K := .i64) aggR_ok (fun _ _ _ _ h => h) (by kernel_rfl) rfl r4ks (kx := [3, 8]) (kr := []) rfl l.length 2 (fun _ => True) trivial (fun k => [.v (.slice A l.length c), .v (.int .i64 (l.length : Int)), .v (.bool (accP b l k)), .p 1 0]) (fun _ => [B0, ⟨true, 55, [a0, a1, a2, a3, a4, a5, a6, a7, a8, a9, a10, .slice A l.length c]⟩])
    (fun k => if h : k < l.length then (match k, h with
      | 0, h => some (⟨false, 103, Done.cells l[0]⟩, match A with | some ad => (ad.block, ad.off) | none => (0, 0))
      | j + 1, h => some (⟨false, 103, Done.cells (l[j]'(by omega)) ++ Done.cells l[j + 1]⟩, match A with | some ad => (ad.block, ad.off + j * 3) | none => (0, 0))) else none)
    (fun k => if h : k < l.length then (match k with | 0 => callTab [(284, .p 2 0)] | _ + 1 => callTab [(284, .p 2 3), (325, .p 2 0)]) else callTab [])
    (fun k => litIn (match k with | 0 => [320] | _ + 1 => [])) (fun k s => match Nat.beq s 282 with | true => some (decide (k < l.length)) | false => none)
    (fun _ _ => rfl) (fun _ _ => rfl) ?_ (Nat.zero_le _) ?_
  · intro k x hx
    split at hx
    · rename_i hkn
      obtain ⟨b', o, c', e, hb', hrg⟩ := row_range (r := ⟨.slice A l.length c, l⟩) (s := 3) (by decide) (fun _ => rfl) hr (Nat.lt_of_le_of_lt (Nat.zero_le _) hkn)
      simp only [Value.slice.injEq] at e
      obtain ⟨rfl, -, -⟩ := e
      cases k with
      | zero =>
        simp only [Option.some.injEq] at hx
        subst hx
        exact ⟨rfl, hb', by have := elem_range (f := Done.cells) (s := 3) (fun _ => rfl) hrg 0 hkn; rw [Nat.zero_mul, Nat.add_zero] at this; exact this⟩
      | succ j =>
        simp only [Option.some.injEq] at hx
        subst hx
        exact ⟨rfl, hb', two_range (f := Done.cells) (s := 3) (fun _ => rfl) hrg j hkn⟩
    · cases hx
  · intro k hk _
    by_cases hkn : k < l.length
    · obtain ⟨b', o, c', e, hb', hrg⟩ := row_range (r := ⟨.slice A l.length c, l⟩) (s := 3) (by decide) (fun _ => rfl) hr (Nat.lt_of_le_of_lt (Nat.zero_le _) hkn)
      simp only [Value.slice.injEq] at e
      obtain ⟨rfl, -, -⟩ := e
      cases k with
      | zero =>
        rw [dif_pos hkn, dif_pos hkn, decide_eq_true hkn]
        refine ⟨.norm [some (.v (.int .i64 (IntKind.i64.wrap (((0 : Nat) : Int) + 1)))), some (.v (.slice (some ⟨b', o, none⟩) l.length c)), some (.v (.int .i64 (l.length : Int))), some (.v (.bool (dS (accP b l 0) l[0] && true))), some (.p 1 0)] [B0, ⟨true, 55, [a0, a1, a2, a3, a4, a5, a6, a7, a8, a9, a10, .slice (some ⟨b', o, none⟩) l.length c]⟩],
          ⟨[.op (fun ρ => do pure (.value (← Instr.indexAt 53 (.slice (some ⟨b', o, none⟩) l.length c) (.int .i64 ((0 : Nat) : Int))))) (.p 2 0)], [], [(decide (((0 : Nat) : Int) < (l.length : Int)), true)]⟩, by kernel_rfl, ⟨?_, ?_, ?_⟩, hkn, trivial, ?_, rfl⟩
        · refine paid2_cons (paid_index (s := 3) (by kernel_rfl) done_sz hkn fun ρ hX => ?_) paid2_nil
          rw [hX.2 _ rfl]
          exact ⟨rfl, by simp⟩
        · exact fun q hq => by cases hq
        · exact fun p hp => by rw [List.mem_singleton.1 hp]; exact decide_eq_true (Int.ofNat_lt.2 hkn)
        · rw [wrap_add 0 (by omega), accP_succ hkn]
          rfl
      | succ j =>
        rw [dif_pos hkn, dif_pos hkn, decide_eq_true hkn]
        refine ⟨.norm [some (.v (.int .i64 (IntKind.i64.wrap (((j + 1 : Nat) : Int) + 1)))), some (.v (.slice (some ⟨b', o, none⟩) l.length c)), some (.v (.int .i64 (l.length : Int))), some (.v (.bool (dS (accP b l (j + 1)) l[j + 1] && ((((j + 1 : Nat) : Int) == 0) || decide (l[j].at' ≤ l[j + 1].at'))))), some (.p 1 0)] [B0, ⟨true, 55, [a0, a1, a2, a3, a4, a5, a6, a7, a8, a9, a10, .slice (some ⟨b', o, none⟩) l.length c]⟩],
          ⟨[.op (fun ρ => do pure (.value (← Instr.indexAt 53 (.slice (some ⟨b', o, none⟩) l.length c) (.int .i64 ((j + 1 : Nat) : Int))))) (.p 2 3), .op (fun ρ => do pure (.value (← Instr.indexAt 53 (.slice (some ⟨b', o, none⟩) l.length c) (.int .i64 (IntKind.i64.wrap (((j + 1 : Nat) : Int) - 1)))))) (.p 2 0)], [], [(decide (((j + 1 : Nat) : Int) < (l.length : Int)), true)]⟩, by kernel_rfl, ⟨?_, ?_, ?_⟩, hkn, trivial, ?_, rfl⟩
        · refine paid2_cons (paid_index (s := 3) (by kernel_rfl) done_sz hkn fun ρ hX => ?_) (paid2_cons ?_ paid2_nil)
          · rw [hX.2 _ rfl]
            exact ⟨rfl, by simp only [Nat.succ_mul]; omega⟩
          · rw [wrap_sub j (by omega)]
            refine paid_index (s := 3) (by kernel_rfl) done_sz (Nat.lt_of_succ_lt hkn) fun ρ hX => ?_
            rw [hX.2 _ rfl]
            exact ⟨rfl, rfl⟩
        · exact fun q hq => by cases hq
        · exact fun p hp => by rw [List.mem_singleton.1 hp]; exact decide_eq_true (Int.ofNat_lt.2 hkn)
        · rw [wrap_add (j + 1) (by omega), accP_succ hkn]
          rfl
    · have : k = l.length := by omega
      subst this
      rw [dif_neg hkn, dif_neg hkn, decide_eq_false hkn]
      refine ⟨.exit [some (.v (.bool (accP b l l.length))), some (.p 1 0)] [B0, ⟨true, 55, [a0, a1, a2, a3, a4, a5, a6, a7, a8, a9, a10, .slice A l.length c]⟩], ⟨[], [], [(decide ((l.length : Int) < (l.length : Int)), false)]⟩, by kernel_rfl, ⟨fun x hx => (by cases hx), fun x hx => (by cases hx), fun p hp => by rw [List.mem_singleton.1 hp]; simp⟩, [.v (.bool (accP b l l.length)), .p 1 0], rfl, rfl, fun Q hQ => ?_⟩
      rw [hb]
      exact hQ
set_option maxRecDepth 100000 in
theorem right_hp (o : Ob) (w : World) (ho : o.Ok w) (hk : o.kind = 4) : Calls Try.prog 20 #[.agg o.cells.toArray] w fun e w' => e = .returned (.int .i64 (errN o.name (mayH (emptyB o) o.h))) ∧ Below w.heap.size w w' := by
  obtain ⟨kind, name, version, ⟨w0, w1, w2, ⟨vw3, lw3⟩, ⟨vw4, lw4⟩, ⟨vw5, lw5⟩, w6⟩, ⟨p0, p1, p2, p3, p4, p5, ⟨vp6, lp6⟩, ⟨vp7, lp7⟩, ⟨vp8, lp8⟩, p9⟩, ⟨n0, n1, n2, ⟨vn3, ln3⟩, ⟨vn4, ln4⟩, n5, n6⟩, ⟨g0, g1, g2, g3, g4, ⟨vg5, lg5⟩, ⟨vg6, lg6⟩, g7⟩, ⟨h0, h1, h2, ⟨vh3, lh3⟩, h4, ⟨h5, h6, ⟨vh7, lh7⟩⟩, ⟨h8, h9, ⟨vh10, lh10⟩⟩, ⟨vh11, lh11⟩⟩⟩ := o
  obtain ⟨Aw3, cw3, rfl⟩ : ∃ A c, vw3 = .slice A lw3.length c := by obtain ⟨A, c, e, _⟩ := ho.w.labels.1; exact ⟨A, c, e⟩
  obtain ⟨Aw4, cw4, rfl⟩ : ∃ A c, vw4 = .slice A lw4.length c := by obtain ⟨A, c, e, _⟩ := ho.w.select.1; exact ⟨A, c, e⟩
  obtain ⟨Aw5, cw5, rfl⟩ : ∃ A c, vw5 = .slice A lw5.length c := by obtain ⟨A, c, e, _⟩ := ho.w.tolerate.1; exact ⟨A, c, e⟩
  obtain ⟨Ap6, cp6, rfl⟩ : ∃ A c, vp6 = .slice A lp6.length c := by obtain ⟨A, c, e, _⟩ := ho.p.labels.1; exact ⟨A, c, e⟩
  obtain ⟨Ap7, cp7, rfl⟩ : ∃ A c, vp7 = .slice A lp7.length c := by obtain ⟨A, c, e, _⟩ := ho.p.select.1; exact ⟨A, c, e⟩
  obtain ⟨Ap8, cp8, rfl⟩ : ∃ A c, vp8 = .slice A lp8.length c := by obtain ⟨A, c, e, _⟩ := ho.p.tolerate.1; exact ⟨A, c, e⟩
  obtain ⟨An3, cn3, rfl⟩ : ∃ A c, vn3 = .slice A ln3.length c := by obtain ⟨A, c, e, _⟩ := ho.n.labels.1; exact ⟨A, c, e⟩
  obtain ⟨An4, cn4, rfl⟩ : ∃ A c, vn4 = .slice A ln4.length c := by obtain ⟨A, c, e, _⟩ := ho.n.taints.1; exact ⟨A, c, e⟩
  obtain ⟨Ag5, cg5, rfl⟩ : ∃ A c, vg5 = .slice A lg5.length c := by obtain ⟨A, c, e, _⟩ := ho.g.labels.1; exact ⟨A, c, e⟩
  obtain ⟨Ag6, cg6, rfl⟩ : ∃ A c, vg6 = .slice A lg6.length c := by obtain ⟨A, c, e, _⟩ := ho.g.taints.1; exact ⟨A, c, e⟩
  obtain ⟨Ah3, ch3, rfl⟩ : ∃ A c, vh3 = .slice A lh3.length c := by obtain ⟨A, c, e, _⟩ := ho.h.metrics.1; exact ⟨A, c, e⟩
  obtain ⟨Ah7, ch7, rfl⟩ : ∃ A c, vh7 = .slice A lh7.length c := by obtain ⟨A, c, e, _⟩ := ho.h.up.policies.1; exact ⟨A, c, e⟩
  obtain ⟨Ah10, ch10, rfl⟩ : ∃ A c, vh10 = .slice A lh10.length c := by obtain ⟨A, c, e, _⟩ := ho.h.down.policies.1; exact ⟨A, c, e⟩
  obtain ⟨Ah11, ch11, rfl⟩ : ∃ A c, vh11 = .slice A lh11.length c := by obtain ⟨A, c, e, _⟩ := ho.h.past.1; exact ⟨A, c, e⟩
  simp only at hk
  subst hk
  have hL1 := r4_past Ah11 ch11 lh11 w (callTab [(23, .v (.bool (nmB name))), (26, .v (.bool (emptyB (Ob.mk 4 name version (⟨w0, w1, w2, ⟨.slice Aw3 lw3.length cw3, lw3⟩, ⟨.slice Aw4 lw4.length cw4, lw4⟩, ⟨.slice Aw5 lw5.length cw5, lw5⟩, w6⟩ : Wl) (⟨p0, p1, p2, p3, p4, p5, ⟨.slice Ap6 lp6.length cp6, lp6⟩, ⟨.slice Ap7 lp7.length cp7, lp7⟩, ⟨.slice Ap8 lp8.length cp8, lp8⟩, p9⟩ : Pd) (⟨n0, n1, n2, ⟨.slice An3 ln3.length cn3, ln3⟩, ⟨.slice An4 ln4.length cn4, ln4⟩, n5, n6⟩ : Nd) (⟨g0, g1, g2, g3, g4, ⟨.slice Ag5 lg5.length cg5, lg5⟩, ⟨.slice Ag6 lg6.length cg6, lg6⟩, g7⟩ : Gr) (⟨h0, h1, h2, ⟨.slice Ah3 lh3.length ch3, lh3⟩, h4, ⟨h5, h6, ⟨.slice Ah7 lh7.length ch7, lh7⟩⟩, ⟨h8, h9, ⟨.slice Ah10 lh10.length ch10, lh10⟩⟩, ⟨.slice Ah11 lh11.length ch11, lh11⟩⟩ : Hp))))), (227, .v (.bool (nmB h0))), (271, .v (.bool (goesB (⟨h5, h6, ⟨.slice Ah7 lh7.length ch7, lh7⟩⟩ : Bh)))), (276, .v (.bool (goesB (⟨h8, h9, ⟨.slice Ah10 lh10.length ch10, lh10⟩⟩ : Bh))))]) ⟨true, 57, ((Ob.mk 4 name version (⟨w0, w1, w2, ⟨.slice Aw3 lw3.length cw3, lw3⟩, ⟨.slice Aw4 lw4.length cw4, lw4⟩, ⟨.slice Aw5 lw5.length cw5, lw5⟩, w6⟩ : Wl) (⟨p0, p1, p2, p3, p4, p5, ⟨.slice Ap6 lp6.length cp6, lp6⟩, ⟨.slice Ap7 lp7.length cp7, lp7⟩, ⟨.slice Ap8 lp8.length cp8, lp8⟩, p9⟩ : Pd) (⟨n0, n1, n2, ⟨.slice An3 ln3.length cn3, ln3⟩, ⟨.slice An4 ln4.length cn4, ln4⟩, n5, n6⟩ : Nd) (⟨g0, g1, g2, g3, g4, ⟨.slice Ag5 lg5.length cg5, lg5⟩, ⟨.slice Ag6 lg6.length cg6, lg6⟩, g7⟩ : Gr) (⟨h0, h1, h2, ⟨.slice Ah3 lh3.length ch3, lh3⟩, h4, ⟨h5, h6, ⟨.slice Ah7 lh7.length ch7, lh7⟩⟩, ⟨h8, h9, ⟨.slice Ah10 lh10.length ch10, lh10⟩⟩, ⟨.slice Ah11 lh11.length ch11, lh11⟩⟩ : Hp))).cells⟩ [.string h0, .int .i64 h1, .int .i64 h2, .slice Ah3 lh3.length ch3, .int .i64 h4, .int .i64 h5, .int .i64 h6, .slice Ah7 lh7.length ch7, .int .i64 h8, .int .i64 h9, .slice Ah10 lh10.length ch10, .slice Ah11 lh11.length ch11] (mayH0 (emptyB (Ob.mk 4 name version (⟨w0, w1, w2, ⟨.slice Aw3 lw3.length cw3, lw3⟩, ⟨.slice Aw4 lw4.length cw4, lw4⟩, ⟨.slice Aw5 lw5.length cw5, lw5⟩, w6⟩ : Wl) (⟨p0, p1, p2, p3, p4, p5, ⟨.slice Ap6 lp6.length cp6, lp6⟩, ⟨.slice Ap7 lp7.length cp7, lp7⟩, ⟨.slice Ap8 lp8.length cp8, lp8⟩, p9⟩ : Pd) (⟨n0, n1, n2, ⟨.slice An3 ln3.length cn3, ln3⟩, ⟨.slice An4 ln4.length cn4, ln4⟩, n5, n6⟩ : Nd) (⟨g0, g1, g2, g3, g4, ⟨.slice Ag5 lg5.length cg5, lg5⟩, ⟨.slice Ag6 lg6.length cg6, lg6⟩, g7⟩ : Gr) (⟨h0, h1, h2, ⟨.slice Ah3 lh3.length ch3, lh3⟩, h4, ⟨h5, h6, ⟨.slice Ah7 lh7.length ch7, lh7⟩⟩, ⟨h8, h9, ⟨.slice Ah10 lh10.length ch10, lh10⟩⟩, ⟨.slice Ah11 lh11.length ch11, lh11⟩⟩ : Hp))) (⟨h0, h1, h2, ⟨.slice Ah3 lh3.length ch3, lh3⟩, h4, ⟨h5, h6, ⟨.slice Ah7 lh7.length ch7, lh7⟩⟩, ⟨h8, h9, ⟨.slice Ah10 lh10.length ch10, lh10⟩⟩, ⟨.slice Ah11 lh11.length ch11, lh11⟩⟩ : Hp)) (accP (mayH0 (emptyB (Ob.mk 4 name version (⟨w0, w1, w2, ⟨.slice Aw3 lw3.length cw3, lw3⟩, ⟨.slice Aw4 lw4.length cw4, lw4⟩, ⟨.slice Aw5 lw5.length cw5, lw5⟩, w6⟩ : Wl) (⟨p0, p1, p2, p3, p4, p5, ⟨.slice Ap6 lp6.length cp6, lp6⟩, ⟨.slice Ap7 lp7.length cp7, lp7⟩, ⟨.slice Ap8 lp8.length cp8, lp8⟩, p9⟩ : Pd) (⟨n0, n1, n2, ⟨.slice An3 ln3.length cn3, ln3⟩, ⟨.slice An4 ln4.length cn4, ln4⟩, n5, n6⟩ : Nd) (⟨g0, g1, g2, g3, g4, ⟨.slice Ag5 lg5.length cg5, lg5⟩, ⟨.slice Ag6 lg6.length cg6, lg6⟩, g7⟩ : Gr) (⟨h0, h1, h2, ⟨.slice Ah3 lh3.length ch3, lh3⟩, h4, ⟨h5, h6, ⟨.slice Ah7 lh7.length ch7, lh7⟩⟩, ⟨h8, h9, ⟨.slice Ah10 lh10.length ch10, lh10⟩⟩, ⟨.slice Ah11 lh11.length ch11, lh11⟩⟩ : Hp))) (⟨h0, h1, h2, ⟨.slice Ah3 lh3.length ch3, lh3⟩, h4, ⟨h5, h6, ⟨.slice Ah7 lh7.length ch7, lh7⟩⟩, ⟨h8, h9, ⟨.slice Ah10 lh10.length ch10, lh10⟩⟩, ⟨.slice Ah11 lh11.length ch11, lh11⟩⟩ : Hp)) lh11 lh11.length) (accM ((accP (mayH0 (emptyB (Ob.mk 4 name version (⟨w0, w1, w2, ⟨.slice Aw3 lw3.length cw3, lw3⟩, ⟨.slice Aw4 lw4.length cw4, lw4⟩, ⟨.slice Aw5 lw5.length cw5, lw5⟩, w6⟩ : Wl) (⟨p0, p1, p2, p3, p4, p5, ⟨.slice Ap6 lp6.length cp6, lp6⟩, ⟨.slice Ap7 lp7.length cp7, lp7⟩, ⟨.slice Ap8 lp8.length cp8, lp8⟩, p9⟩ : Pd) (⟨n0, n1, n2, ⟨.slice An3 ln3.length cn3, ln3⟩, ⟨.slice An4 ln4.length cn4, ln4⟩, n5, n6⟩ : Nd) (⟨g0, g1, g2, g3, g4, ⟨.slice Ag5 lg5.length cg5, lg5⟩, ⟨.slice Ag6 lg6.length cg6, lg6⟩, g7⟩ : Gr) (⟨h0, h1, h2, ⟨.slice Ah3 lh3.length ch3, lh3⟩, h4, ⟨h5, h6, ⟨.slice Ah7 lh7.length ch7, lh7⟩⟩, ⟨h8, h9, ⟨.slice Ah10 lh10.length ch10, lh10⟩⟩, ⟨.slice Ah11 lh11.length ch11, lh11⟩⟩ : Hp))) (⟨h0, h1, h2, ⟨.slice Ah3 lh3.length ch3, lh3⟩, h4, ⟨h5, h6, ⟨.slice Ah7 lh7.length ch7, lh7⟩⟩, ⟨h8, h9, ⟨.slice Ah10 lh10.length ch10, lh10⟩⟩, ⟨.slice Ah11 lh11.length ch11, lh11⟩⟩ : Hp)) lh11 lh11.length) && decide ((lh11.length : Int) ≤ 32)) lh3 lh3.length) rfl (.string h0) (.int .i64 h1) (.int .i64 h2) (.slice Ah3 lh3.length ch3) (.int .i64 h4) (.int .i64 h5) (.int .i64 h6) (.slice Ah7 lh7.length ch7) (.int .i64 h8) (.int .i64 h9) (.slice Ah10 lh10.length ch10) rfl ho.h.past (row_len ho.h.past (by decide))
  have hL2 := r4_mets Ah3 ch3 lh3 w (callTab [(23, .v (.bool (nmB name))), (26, .v (.bool (emptyB (Ob.mk 4 name version (⟨w0, w1, w2, ⟨.slice Aw3 lw3.length cw3, lw3⟩, ⟨.slice Aw4 lw4.length cw4, lw4⟩, ⟨.slice Aw5 lw5.length cw5, lw5⟩, w6⟩ : Wl) (⟨p0, p1, p2, p3, p4, p5, ⟨.slice Ap6 lp6.length cp6, lp6⟩, ⟨.slice Ap7 lp7.length cp7, lp7⟩, ⟨.slice Ap8 lp8.length cp8, lp8⟩, p9⟩ : Pd) (⟨n0, n1, n2, ⟨.slice An3 ln3.length cn3, ln3⟩, ⟨.slice An4 ln4.length cn4, ln4⟩, n5, n6⟩ : Nd) (⟨g0, g1, g2, g3, g4, ⟨.slice Ag5 lg5.length cg5, lg5⟩, ⟨.slice Ag6 lg6.length cg6, lg6⟩, g7⟩ : Gr) (⟨h0, h1, h2, ⟨.slice Ah3 lh3.length ch3, lh3⟩, h4, ⟨h5, h6, ⟨.slice Ah7 lh7.length ch7, lh7⟩⟩, ⟨h8, h9, ⟨.slice Ah10 lh10.length ch10, lh10⟩⟩, ⟨.slice Ah11 lh11.length ch11, lh11⟩⟩ : Hp))))), (227, .v (.bool (nmB h0))), (271, .v (.bool (goesB (⟨h5, h6, ⟨.slice Ah7 lh7.length ch7, lh7⟩⟩ : Bh)))), (276, .v (.bool (goesB (⟨h8, h9, ⟨.slice Ah10 lh10.length ch10, lh10⟩⟩ : Bh))))]) ⟨true, 57, ((Ob.mk 4 name version (⟨w0, w1, w2, ⟨.slice Aw3 lw3.length cw3, lw3⟩, ⟨.slice Aw4 lw4.length cw4, lw4⟩, ⟨.slice Aw5 lw5.length cw5, lw5⟩, w6⟩ : Wl) (⟨p0, p1, p2, p3, p4, p5, ⟨.slice Ap6 lp6.length cp6, lp6⟩, ⟨.slice Ap7 lp7.length cp7, lp7⟩, ⟨.slice Ap8 lp8.length cp8, lp8⟩, p9⟩ : Pd) (⟨n0, n1, n2, ⟨.slice An3 ln3.length cn3, ln3⟩, ⟨.slice An4 ln4.length cn4, ln4⟩, n5, n6⟩ : Nd) (⟨g0, g1, g2, g3, g4, ⟨.slice Ag5 lg5.length cg5, lg5⟩, ⟨.slice Ag6 lg6.length cg6, lg6⟩, g7⟩ : Gr) (⟨h0, h1, h2, ⟨.slice Ah3 lh3.length ch3, lh3⟩, h4, ⟨h5, h6, ⟨.slice Ah7 lh7.length ch7, lh7⟩⟩, ⟨h8, h9, ⟨.slice Ah10 lh10.length ch10, lh10⟩⟩, ⟨.slice Ah11 lh11.length ch11, lh11⟩⟩ : Hp))).cells⟩ [.string h0, .int .i64 h1, .int .i64 h2, .slice Ah3 lh3.length ch3, .int .i64 h4, .int .i64 h5, .int .i64 h6, .slice Ah7 lh7.length ch7, .int .i64 h8, .int .i64 h9, .slice Ah10 lh10.length ch10, .slice Ah11 lh11.length ch11] ((accP (mayH0 (emptyB (Ob.mk 4 name version (⟨w0, w1, w2, ⟨.slice Aw3 lw3.length cw3, lw3⟩, ⟨.slice Aw4 lw4.length cw4, lw4⟩, ⟨.slice Aw5 lw5.length cw5, lw5⟩, w6⟩ : Wl) (⟨p0, p1, p2, p3, p4, p5, ⟨.slice Ap6 lp6.length cp6, lp6⟩, ⟨.slice Ap7 lp7.length cp7, lp7⟩, ⟨.slice Ap8 lp8.length cp8, lp8⟩, p9⟩ : Pd) (⟨n0, n1, n2, ⟨.slice An3 ln3.length cn3, ln3⟩, ⟨.slice An4 ln4.length cn4, ln4⟩, n5, n6⟩ : Nd) (⟨g0, g1, g2, g3, g4, ⟨.slice Ag5 lg5.length cg5, lg5⟩, ⟨.slice Ag6 lg6.length cg6, lg6⟩, g7⟩ : Gr) (⟨h0, h1, h2, ⟨.slice Ah3 lh3.length ch3, lh3⟩, h4, ⟨h5, h6, ⟨.slice Ah7 lh7.length ch7, lh7⟩⟩, ⟨h8, h9, ⟨.slice Ah10 lh10.length ch10, lh10⟩⟩, ⟨.slice Ah11 lh11.length ch11, lh11⟩⟩ : Hp))) (⟨h0, h1, h2, ⟨.slice Ah3 lh3.length ch3, lh3⟩, h4, ⟨h5, h6, ⟨.slice Ah7 lh7.length ch7, lh7⟩⟩, ⟨h8, h9, ⟨.slice Ah10 lh10.length ch10, lh10⟩⟩, ⟨.slice Ah11 lh11.length ch11, lh11⟩⟩ : Hp)) lh11 lh11.length) && decide ((lh11.length : Int) ≤ 32)) (accP (mayH0 (emptyB (Ob.mk 4 name version (⟨w0, w1, w2, ⟨.slice Aw3 lw3.length cw3, lw3⟩, ⟨.slice Aw4 lw4.length cw4, lw4⟩, ⟨.slice Aw5 lw5.length cw5, lw5⟩, w6⟩ : Wl) (⟨p0, p1, p2, p3, p4, p5, ⟨.slice Ap6 lp6.length cp6, lp6⟩, ⟨.slice Ap7 lp7.length cp7, lp7⟩, ⟨.slice Ap8 lp8.length cp8, lp8⟩, p9⟩ : Pd) (⟨n0, n1, n2, ⟨.slice An3 ln3.length cn3, ln3⟩, ⟨.slice An4 ln4.length cn4, ln4⟩, n5, n6⟩ : Nd) (⟨g0, g1, g2, g3, g4, ⟨.slice Ag5 lg5.length cg5, lg5⟩, ⟨.slice Ag6 lg6.length cg6, lg6⟩, g7⟩ : Gr) (⟨h0, h1, h2, ⟨.slice Ah3 lh3.length ch3, lh3⟩, h4, ⟨h5, h6, ⟨.slice Ah7 lh7.length ch7, lh7⟩⟩, ⟨h8, h9, ⟨.slice Ah10 lh10.length ch10, lh10⟩⟩, ⟨.slice Ah11 lh11.length ch11, lh11⟩⟩ : Hp))) (⟨h0, h1, h2, ⟨.slice Ah3 lh3.length ch3, lh3⟩, h4, ⟨h5, h6, ⟨.slice Ah7 lh7.length ch7, lh7⟩⟩, ⟨h8, h9, ⟨.slice Ah10 lh10.length ch10, lh10⟩⟩, ⟨.slice Ah11 lh11.length ch11, lh11⟩⟩ : Hp)) lh11 lh11.length) (accM ((accP (mayH0 (emptyB (Ob.mk 4 name version (⟨w0, w1, w2, ⟨.slice Aw3 lw3.length cw3, lw3⟩, ⟨.slice Aw4 lw4.length cw4, lw4⟩, ⟨.slice Aw5 lw5.length cw5, lw5⟩, w6⟩ : Wl) (⟨p0, p1, p2, p3, p4, p5, ⟨.slice Ap6 lp6.length cp6, lp6⟩, ⟨.slice Ap7 lp7.length cp7, lp7⟩, ⟨.slice Ap8 lp8.length cp8, lp8⟩, p9⟩ : Pd) (⟨n0, n1, n2, ⟨.slice An3 ln3.length cn3, ln3⟩, ⟨.slice An4 ln4.length cn4, ln4⟩, n5, n6⟩ : Nd) (⟨g0, g1, g2, g3, g4, ⟨.slice Ag5 lg5.length cg5, lg5⟩, ⟨.slice Ag6 lg6.length cg6, lg6⟩, g7⟩ : Gr) (⟨h0, h1, h2, ⟨.slice Ah3 lh3.length ch3, lh3⟩, h4, ⟨h5, h6, ⟨.slice Ah7 lh7.length ch7, lh7⟩⟩, ⟨h8, h9, ⟨.slice Ah10 lh10.length ch10, lh10⟩⟩, ⟨.slice Ah11 lh11.length ch11, lh11⟩⟩ : Hp))) (⟨h0, h1, h2, ⟨.slice Ah3 lh3.length ch3, lh3⟩, h4, ⟨h5, h6, ⟨.slice Ah7 lh7.length ch7, lh7⟩⟩, ⟨h8, h9, ⟨.slice Ah10 lh10.length ch10, lh10⟩⟩, ⟨.slice Ah11 lh11.length ch11, lh11⟩⟩ : Hp)) lh11 lh11.length) && decide ((lh11.length : Int) ≤ 32)) lh3 lh3.length) rfl ho.h.metrics (row_len ho.h.metrics (by decide))
  refine px_calls (f := 20) (fn := Try.f20) (args := [.v (.agg ((Ob.mk 4 name version (⟨w0, w1, w2, ⟨.slice Aw3 lw3.length cw3, lw3⟩, ⟨.slice Aw4 lw4.length cw4, lw4⟩, ⟨.slice Aw5 lw5.length cw5, lw5⟩, w6⟩ : Wl) (⟨p0, p1, p2, p3, p4, p5, ⟨.slice Ap6 lp6.length cp6, lp6⟩, ⟨.slice Ap7 lp7.length cp7, lp7⟩, ⟨.slice Ap8 lp8.length cp8, lp8⟩, p9⟩ : Pd) (⟨n0, n1, n2, ⟨.slice An3 ln3.length cn3, ln3⟩, ⟨.slice An4 ln4.length cn4, ln4⟩, n5, n6⟩ : Nd) (⟨g0, g1, g2, g3, g4, ⟨.slice Ag5 lg5.length cg5, lg5⟩, ⟨.slice Ag6 lg6.length cg6, lg6⟩, g7⟩ : Gr) (⟨h0, h1, h2, ⟨.slice Ah3 lh3.length ch3, lh3⟩, h4, ⟨h5, h6, ⟨.slice Ah7 lh7.length ch7, lh7⟩⟩, ⟨h8, h9, ⟨.slice Ah10 lh10.length ch10, lh10⟩⟩, ⟨.slice Ah11 lh11.length ch11, lh11⟩⟩ : Hp))).cells.toArray)]) (B := []) (ρ0 := fun _ => (0, 0)) (H := r4Hyp Try.prog aggR w (callTab [(23, .v (.bool (nmB name))), (26, .v (.bool (emptyB (Ob.mk 4 name version (⟨w0, w1, w2, ⟨.slice Aw3 lw3.length cw3, lw3⟩, ⟨.slice Aw4 lw4.length cw4, lw4⟩, ⟨.slice Aw5 lw5.length cw5, lw5⟩, w6⟩ : Wl) (⟨p0, p1, p2, p3, p4, p5, ⟨.slice Ap6 lp6.length cp6, lp6⟩, ⟨.slice Ap7 lp7.length cp7, lp7⟩, ⟨.slice Ap8 lp8.length cp8, lp8⟩, p9⟩ : Pd) (⟨n0, n1, n2, ⟨.slice An3 ln3.length cn3, ln3⟩, ⟨.slice An4 ln4.length cn4, ln4⟩, n5, n6⟩ : Nd) (⟨g0, g1, g2, g3, g4, ⟨.slice Ag5 lg5.length cg5, lg5⟩, ⟨.slice Ag6 lg6.length cg6, lg6⟩, g7⟩ : Gr) (⟨h0, h1, h2, ⟨.slice Ah3 lh3.length ch3, lh3⟩, h4, ⟨h5, h6, ⟨.slice Ah7 lh7.length ch7, lh7⟩⟩, ⟨h8, h9, ⟨.slice Ah10 lh10.length ch10, lh10⟩⟩, ⟨.slice Ah11 lh11.length ch11, lh11⟩⟩ : Hp))))), (227, .v (.bool (nmB h0))), (271, .v (.bool (goesB (⟨h5, h6, ⟨.slice Ah7 lh7.length ch7, lh7⟩⟩ : Bh)))), (276, .v (.bool (goesB (⟨h8, h9, ⟨.slice Ah10 lh10.length ch10, lh10⟩⟩ : Bh))))]) [⟨true, 57, ((Ob.mk 4 name version (⟨w0, w1, w2, ⟨.slice Aw3 lw3.length cw3, lw3⟩, ⟨.slice Aw4 lw4.length cw4, lw4⟩, ⟨.slice Aw5 lw5.length cw5, lw5⟩, w6⟩ : Wl) (⟨p0, p1, p2, p3, p4, p5, ⟨.slice Ap6 lp6.length cp6, lp6⟩, ⟨.slice Ap7 lp7.length cp7, lp7⟩, ⟨.slice Ap8 lp8.length cp8, lp8⟩, p9⟩ : Pd) (⟨n0, n1, n2, ⟨.slice An3 ln3.length cn3, ln3⟩, ⟨.slice An4 ln4.length cn4, ln4⟩, n5, n6⟩ : Nd) (⟨g0, g1, g2, g3, g4, ⟨.slice Ag5 lg5.length cg5, lg5⟩, ⟨.slice Ag6 lg6.length cg6, lg6⟩, g7⟩ : Gr) (⟨h0, h1, h2, ⟨.slice Ah3 lh3.length ch3, lh3⟩, h4, ⟨h5, h6, ⟨.slice Ah7 lh7.length ch7, lh7⟩⟩, ⟨h8, h9, ⟨.slice Ah10 lh10.length ch10, lh10⟩⟩, ⟨.slice Ah11 lh11.length ch11, lh11⟩⟩ : Hp))).cells⟩, ⟨true, 55, [.string h0, .int .i64 h1, .int .i64 h2, .slice Ah3 lh3.length ch3, .int .i64 h4, .int .i64 h5, .int .i64 h6, .slice Ah7 lh7.length ch7, .int .i64 h8, .int .i64 h9, .slice Ah10 lh10.length ch10, .slice Ah11 lh11.length ch11]⟩] (accP (mayH0 (emptyB (Ob.mk 4 name version (⟨w0, w1, w2, ⟨.slice Aw3 lw3.length cw3, lw3⟩, ⟨.slice Aw4 lw4.length cw4, lw4⟩, ⟨.slice Aw5 lw5.length cw5, lw5⟩, w6⟩ : Wl) (⟨p0, p1, p2, p3, p4, p5, ⟨.slice Ap6 lp6.length cp6, lp6⟩, ⟨.slice Ap7 lp7.length cp7, lp7⟩, ⟨.slice Ap8 lp8.length cp8, lp8⟩, p9⟩ : Pd) (⟨n0, n1, n2, ⟨.slice An3 ln3.length cn3, ln3⟩, ⟨.slice An4 ln4.length cn4, ln4⟩, n5, n6⟩ : Nd) (⟨g0, g1, g2, g3, g4, ⟨.slice Ag5 lg5.length cg5, lg5⟩, ⟨.slice Ag6 lg6.length cg6, lg6⟩, g7⟩ : Gr) (⟨h0, h1, h2, ⟨.slice Ah3 lh3.length ch3, lh3⟩, h4, ⟨h5, h6, ⟨.slice Ah7 lh7.length ch7, lh7⟩⟩, ⟨h8, h9, ⟨.slice Ah10 lh10.length ch10, lh10⟩⟩, ⟨.slice Ah11 lh11.length ch11, lh11⟩⟩ : Hp))) (⟨h0, h1, h2, ⟨.slice Ah3 lh3.length ch3, lh3⟩, h4, ⟨h5, h6, ⟨.slice Ah7 lh7.length ch7, lh7⟩⟩, ⟨h8, h9, ⟨.slice Ah10 lh10.length ch10, lh10⟩⟩, ⟨.slice Ah11 lh11.length ch11, lh11⟩⟩ : Hp)) lh11 lh11.length) (accM ((accP (mayH0 (emptyB (Ob.mk 4 name version (⟨w0, w1, w2, ⟨.slice Aw3 lw3.length cw3, lw3⟩, ⟨.slice Aw4 lw4.length cw4, lw4⟩, ⟨.slice Aw5 lw5.length cw5, lw5⟩, w6⟩ : Wl) (⟨p0, p1, p2, p3, p4, p5, ⟨.slice Ap6 lp6.length cp6, lp6⟩, ⟨.slice Ap7 lp7.length cp7, lp7⟩, ⟨.slice Ap8 lp8.length cp8, lp8⟩, p9⟩ : Pd) (⟨n0, n1, n2, ⟨.slice An3 ln3.length cn3, ln3⟩, ⟨.slice An4 ln4.length cn4, ln4⟩, n5, n6⟩ : Nd) (⟨g0, g1, g2, g3, g4, ⟨.slice Ag5 lg5.length cg5, lg5⟩, ⟨.slice Ag6 lg6.length cg6, lg6⟩, g7⟩ : Gr) (⟨h0, h1, h2, ⟨.slice Ah3 lh3.length ch3, lh3⟩, h4, ⟨h5, h6, ⟨.slice Ah7 lh7.length ch7, lh7⟩⟩, ⟨h8, h9, ⟨.slice Ah10 lh10.length ch10, lh10⟩⟩, ⟨.slice Ah11 lh11.length ch11, lh11⟩⟩ : Hp))) (⟨h0, h1, h2, ⟨.slice Ah3 lh3.length ch3, lh3⟩, h4, ⟨h5, h6, ⟨.slice Ah7 lh7.length ch7, lh7⟩⟩, ⟨h8, h9, ⟨.slice Ah10 lh10.length ch10, lh10⟩⟩, ⟨.slice Ah11 lh11.length ch11, lh11⟩⟩ : Hp)) lh11 lh11.length) && decide ((lh11.length : Int) ≤ 32)) lh3 lh3.length)) aggR_ok (fun _ _ _ _ h => h) (by kernel_rfl) Try.func20 rfl (by kernel_rfl) (by show (1 : Nat) ≤ 392; decide) rfl (by simp [SV.lt]) trivial (Nat.le_refl _) (fun i b hb => by simp at hb) r4ks
    ⟨[.call 21 [.v (.string name)] (.v (.bool (nmB name))), .call 37 [.v (.agg ((Ob.mk 4 name version (⟨w0, w1, w2, ⟨.slice Aw3 lw3.length cw3, lw3⟩, ⟨.slice Aw4 lw4.length cw4, lw4⟩, ⟨.slice Aw5 lw5.length cw5, lw5⟩, w6⟩ : Wl) (⟨p0, p1, p2, p3, p4, p5, ⟨.slice Ap6 lp6.length cp6, lp6⟩, ⟨.slice Ap7 lp7.length cp7, lp7⟩, ⟨.slice Ap8 lp8.length cp8, lp8⟩, p9⟩ : Pd) (⟨n0, n1, n2, ⟨.slice An3 ln3.length cn3, ln3⟩, ⟨.slice An4 ln4.length cn4, ln4⟩, n5, n6⟩ : Nd) (⟨g0, g1, g2, g3, g4, ⟨.slice Ag5 lg5.length cg5, lg5⟩, ⟨.slice Ag6 lg6.length cg6, lg6⟩, g7⟩ : Gr) (⟨h0, h1, h2, ⟨.slice Ah3 lh3.length ch3, lh3⟩, h4, ⟨h5, h6, ⟨.slice Ah7 lh7.length ch7, lh7⟩⟩, ⟨h8, h9, ⟨.slice Ah10 lh10.length ch10, lh10⟩⟩, ⟨.slice Ah11 lh11.length ch11, lh11⟩⟩ : Hp))).cells.toArray)] (.v (.bool (emptyB (Ob.mk 4 name version (⟨w0, w1, w2, ⟨.slice Aw3 lw3.length cw3, lw3⟩, ⟨.slice Aw4 lw4.length cw4, lw4⟩, ⟨.slice Aw5 lw5.length cw5, lw5⟩, w6⟩ : Wl) (⟨p0, p1, p2, p3, p4, p5, ⟨.slice Ap6 lp6.length cp6, lp6⟩, ⟨.slice Ap7 lp7.length cp7, lp7⟩, ⟨.slice Ap8 lp8.length cp8, lp8⟩, p9⟩ : Pd) (⟨n0, n1, n2, ⟨.slice An3 ln3.length cn3, ln3⟩, ⟨.slice An4 ln4.length cn4, ln4⟩, n5, n6⟩ : Nd) (⟨g0, g1, g2, g3, g4, ⟨.slice Ag5 lg5.length cg5, lg5⟩, ⟨.slice Ag6 lg6.length cg6, lg6⟩, g7⟩ : Gr) (⟨h0, h1, h2, ⟨.slice Ah3 lh3.length ch3, lh3⟩, h4, ⟨h5, h6, ⟨.slice Ah7 lh7.length ch7, lh7⟩⟩, ⟨h8, h9, ⟨.slice Ah10 lh10.length ch10, lh10⟩⟩, ⟨.slice Ah11 lh11.length ch11, lh11⟩⟩ : Hp))))), .call 21 [.v (.string h0)] (.v (.bool (nmB h0))), .call 41 [.v (.agg (⟨h5, h6, ⟨.slice Ah7 lh7.length ch7, lh7⟩⟩ : Bh).cells.toArray)] (.v (.bool (goesB (⟨h5, h6, ⟨.slice Ah7 lh7.length ch7, lh7⟩⟩ : Bh)))), .call 41 [.v (.agg (⟨h8, h9, ⟨.slice Ah10 lh10.length ch10, lh10⟩⟩ : Bh).cells.toArray)] (.v (.bool (goesB (⟨h8, h9, ⟨.slice Ah10 lh10.length ch10, lh10⟩⟩ : Bh))))],
      [(1, .loop (loopBody Try.f20 1), [some (.v (.int .i64 0)), some (.v (.slice Ah11 lh11.length ch11)), some (.v (.int .i64 (lh11.length : Int))), some (.v (.bool (mayH0 (emptyB (Ob.mk 4 name version (⟨w0, w1, w2, ⟨.slice Aw3 lw3.length cw3, lw3⟩, ⟨.slice Aw4 lw4.length cw4, lw4⟩, ⟨.slice Aw5 lw5.length cw5, lw5⟩, w6⟩ : Wl) (⟨p0, p1, p2, p3, p4, p5, ⟨.slice Ap6 lp6.length cp6, lp6⟩, ⟨.slice Ap7 lp7.length cp7, lp7⟩, ⟨.slice Ap8 lp8.length cp8, lp8⟩, p9⟩ : Pd) (⟨n0, n1, n2, ⟨.slice An3 ln3.length cn3, ln3⟩, ⟨.slice An4 ln4.length cn4, ln4⟩, n5, n6⟩ : Nd) (⟨g0, g1, g2, g3, g4, ⟨.slice Ag5 lg5.length cg5, lg5⟩, ⟨.slice Ag6 lg6.length cg6, lg6⟩, g7⟩ : Gr) (⟨h0, h1, h2, ⟨.slice Ah3 lh3.length ch3, lh3⟩, h4, ⟨h5, h6, ⟨.slice Ah7 lh7.length ch7, lh7⟩⟩, ⟨h8, h9, ⟨.slice Ah10 lh10.length ch10, lh10⟩⟩, ⟨.slice Ah11 lh11.length ch11, lh11⟩⟩ : Hp))) (⟨h0, h1, h2, ⟨.slice Ah3 lh3.length ch3, lh3⟩, h4, ⟨h5, h6, ⟨.slice Ah7 lh7.length ch7, lh7⟩⟩, ⟨h8, h9, ⟨.slice Ah10 lh10.length ch10, lh10⟩⟩, ⟨.slice Ah11 lh11.length ch11, lh11⟩⟩ : Hp)))), some (.p 1 0)], [⟨true, 57, ((Ob.mk 4 name version (⟨w0, w1, w2, ⟨.slice Aw3 lw3.length cw3, lw3⟩, ⟨.slice Aw4 lw4.length cw4, lw4⟩, ⟨.slice Aw5 lw5.length cw5, lw5⟩, w6⟩ : Wl) (⟨p0, p1, p2, p3, p4, p5, ⟨.slice Ap6 lp6.length cp6, lp6⟩, ⟨.slice Ap7 lp7.length cp7, lp7⟩, ⟨.slice Ap8 lp8.length cp8, lp8⟩, p9⟩ : Pd) (⟨n0, n1, n2, ⟨.slice An3 ln3.length cn3, ln3⟩, ⟨.slice An4 ln4.length cn4, ln4⟩, n5, n6⟩ : Nd) (⟨g0, g1, g2, g3, g4, ⟨.slice Ag5 lg5.length cg5, lg5⟩, ⟨.slice Ag6 lg6.length cg6, lg6⟩, g7⟩ : Gr) (⟨h0, h1, h2, ⟨.slice Ah3 lh3.length ch3, lh3⟩, h4, ⟨h5, h6, ⟨.slice Ah7 lh7.length ch7, lh7⟩⟩, ⟨h8, h9, ⟨.slice Ah10 lh10.length ch10, lh10⟩⟩, ⟨.slice Ah11 lh11.length ch11, lh11⟩⟩ : Hp))).cells⟩, ⟨true, 55, [.string h0, .int .i64 h1, .int .i64 h2, .slice Ah3 lh3.length ch3, .int .i64 h4, .int .i64 h5, .int .i64 h6, .slice Ah7 lh7.length ch7, .int .i64 h8, .int .i64 h9, .slice Ah10 lh10.length ch10, .slice Ah11 lh11.length ch11]⟩]),
       (3, .loop (loopBody Try.f20 3), [some (.v (.int .i64 0)), some (.v (.slice Ah3 lh3.length ch3)), some (.v (.int .i64 (lh3.length : Int))), some (.v (.bool ((accP (mayH0 (emptyB (Ob.mk 4 name version (⟨w0, w1, w2, ⟨.slice Aw3 lw3.length cw3, lw3⟩, ⟨.slice Aw4 lw4.length cw4, lw4⟩, ⟨.slice Aw5 lw5.length cw5, lw5⟩, w6⟩ : Wl) (⟨p0, p1, p2, p3, p4, p5, ⟨.slice Ap6 lp6.length cp6, lp6⟩, ⟨.slice Ap7 lp7.length cp7, lp7⟩, ⟨.slice Ap8 lp8.length cp8, lp8⟩, p9⟩ : Pd) (⟨n0, n1, n2, ⟨.slice An3 ln3.length cn3, ln3⟩, ⟨.slice An4 ln4.length cn4, ln4⟩, n5, n6⟩ : Nd) (⟨g0, g1, g2, g3, g4, ⟨.slice Ag5 lg5.length cg5, lg5⟩, ⟨.slice Ag6 lg6.length cg6, lg6⟩, g7⟩ : Gr) (⟨h0, h1, h2, ⟨.slice Ah3 lh3.length ch3, lh3⟩, h4, ⟨h5, h6, ⟨.slice Ah7 lh7.length ch7, lh7⟩⟩, ⟨h8, h9, ⟨.slice Ah10 lh10.length ch10, lh10⟩⟩, ⟨.slice Ah11 lh11.length ch11, lh11⟩⟩ : Hp))) (⟨h0, h1, h2, ⟨.slice Ah3 lh3.length ch3, lh3⟩, h4, ⟨h5, h6, ⟨.slice Ah7 lh7.length ch7, lh7⟩⟩, ⟨h8, h9, ⟨.slice Ah10 lh10.length ch10, lh10⟩⟩, ⟨.slice Ah11 lh11.length ch11, lh11⟩⟩ : Hp)) lh11 lh11.length) && decide ((lh11.length : Int) ≤ 32))))], [⟨true, 57, ((Ob.mk 4 name version (⟨w0, w1, w2, ⟨.slice Aw3 lw3.length cw3, lw3⟩, ⟨.slice Aw4 lw4.length cw4, lw4⟩, ⟨.slice Aw5 lw5.length cw5, lw5⟩, w6⟩ : Wl) (⟨p0, p1, p2, p3, p4, p5, ⟨.slice Ap6 lp6.length cp6, lp6⟩, ⟨.slice Ap7 lp7.length cp7, lp7⟩, ⟨.slice Ap8 lp8.length cp8, lp8⟩, p9⟩ : Pd) (⟨n0, n1, n2, ⟨.slice An3 ln3.length cn3, ln3⟩, ⟨.slice An4 ln4.length cn4, ln4⟩, n5, n6⟩ : Nd) (⟨g0, g1, g2, g3, g4, ⟨.slice Ag5 lg5.length cg5, lg5⟩, ⟨.slice Ag6 lg6.length cg6, lg6⟩, g7⟩ : Gr) (⟨h0, h1, h2, ⟨.slice Ah3 lh3.length ch3, lh3⟩, h4, ⟨h5, h6, ⟨.slice Ah7 lh7.length ch7, lh7⟩⟩, ⟨h8, h9, ⟨.slice Ah10 lh10.length ch10, lh10⟩⟩, ⟨.slice Ah11 lh11.length ch11, lh11⟩⟩ : Hp))).cells⟩, ⟨true, 55, [.string h0, .int .i64 h1, .int .i64 h2, .slice Ah3 lh3.length ch3, .int .i64 h4, .int .i64 h5, .int .i64 h6, .slice Ah7 lh7.length ch7, .int .i64 h8, .int .i64 h9, .slice Ah10 lh10.length ch10, .slice Ah11 lh11.length ch11]⟩])], []⟩ [.v (rightV name (accM ((accP (mayH0 (emptyB (Ob.mk 4 name version (⟨w0, w1, w2, ⟨.slice Aw3 lw3.length cw3, lw3⟩, ⟨.slice Aw4 lw4.length cw4, lw4⟩, ⟨.slice Aw5 lw5.length cw5, lw5⟩, w6⟩ : Wl) (⟨p0, p1, p2, p3, p4, p5, ⟨.slice Ap6 lp6.length cp6, lp6⟩, ⟨.slice Ap7 lp7.length cp7, lp7⟩, ⟨.slice Ap8 lp8.length cp8, lp8⟩, p9⟩ : Pd) (⟨n0, n1, n2, ⟨.slice An3 ln3.length cn3, ln3⟩, ⟨.slice An4 ln4.length cn4, ln4⟩, n5, n6⟩ : Nd) (⟨g0, g1, g2, g3, g4, ⟨.slice Ag5 lg5.length cg5, lg5⟩, ⟨.slice Ag6 lg6.length cg6, lg6⟩, g7⟩ : Gr) (⟨h0, h1, h2, ⟨.slice Ah3 lh3.length ch3, lh3⟩, h4, ⟨h5, h6, ⟨.slice Ah7 lh7.length ch7, lh7⟩⟩, ⟨h8, h9, ⟨.slice Ah10 lh10.length ch10, lh10⟩⟩, ⟨.slice Ah11 lh11.length ch11, lh11⟩⟩ : Hp))) (⟨h0, h1, h2, ⟨.slice Ah3 lh3.length ch3, lh3⟩, h4, ⟨h5, h6, ⟨.slice Ah7 lh7.length ch7, lh7⟩⟩, ⟨h8, h9, ⟨.slice Ah10 lh10.length ch10, lh10⟩⟩, ⟨.slice Ah11 lh11.length ch11, lh11⟩⟩ : Hp)) lh11 lh11.length) && decide ((lh11.length : Int) ≤ 32)) lh3 lh3.length))] (by kernel_rfl) ⟨?_, fun q hq => ?_, fun p hp => (by cases hp)⟩ (fun ρ w' _ hb => ⟨?_, hb⟩)
  · exact paid2_cons (fun ρ _ w1 hb => (name_any name w1 ho.name).mono fun e w' ⟨h1, h2⟩ => ⟨h1, h2 ▸ Below.refl _ _⟩) (paid2_cons (fun ρ _ w1 hb => empty_any _ w1 (ho.below hb)) (paid2_cons (fun ρ _ w1 hb => (name_any _ w1 ho.h.target).mono fun e w' ⟨h1, h2⟩ => ⟨h1, h2 ▸ Below.refl _ _⟩) (paid2_cons (fun ρ _ w1 hb => goes_any _ w1 (ho.h.up.below hb)) (paid2_cons (fun ρ _ w1 hb => goes_any _ w1 (ho.h.down.below hb)) paid2_nil))))
  · rcases List.mem_cons.1 hq with rfl | hq
    · exact hL1
    · rw [List.mem_singleton.1 hq]
      exact hL2
  · show Ending.returned (rightV name _) = _
    rw [rightV_eq]
    rfl
end Go.Proofs.Ytkpklnalfomcbaa
end
section
namespace Go.Proofs.Ytkpklnalfomcbaa
open Go.RowKit Go.Proofs.Mem
set_option linter.unusedVariables false
set_option linter.unusedSimpArgs false
end Go.Proofs.Ytkpklnalfomcbaa
end
section
namespace Go.Proofs.Ytkpklnalfomcbaa
open Go.RowKit Go.Proofs.Mem
set_option linter.unusedVariables false
set_option linter.unusedSimpArgs false
def mayO (o : Ob) : Bool := if o.kind = 0 then mayW (emptyB o) o.w else if o.kind = 1 then mayP (emptyB o) o.p else if o.kind = 2 then mayN (emptyB o) o.n else if o.kind = 3 then mayG (emptyB o) o.g else mayH (emptyB o) o.h
def errO (o : Ob) : Int := if 0 ≤ o.kind ∧ o.kind ≤ 4 then errN o.name (mayO o) else 17
end Go.Proofs.Ytkpklnalfomcbaa
end
section
namespace Go.Proofs.Ytkpklnalfomcbaa
open Go.RowKit Go.Proofs.Mem
set_option linter.unusedVariables false
set_option linter.unusedSimpArgs false
set_option maxRecDepth 100000 in
theorem right_no (o : Ob) (w : World) (ho : o.Ok w) (hk : ¬ (0 ≤ o.kind ∧ o.kind ≤ 4)) : Calls Try.prog 20 #[.agg o.cells.toArray] w fun e w' => e = .returned (.int .i64 17) ∧ Below w.heap.size w w' := by
  obtain ⟨kind, name, version, ⟨w0, w1, w2, ⟨vw3, lw3⟩, ⟨vw4, lw4⟩, ⟨vw5, lw5⟩, w6⟩, ⟨p0, p1, p2, p3, p4, p5, ⟨vp6, lp6⟩, ⟨vp7, lp7⟩, ⟨vp8, lp8⟩, p9⟩, ⟨n0, n1, n2, ⟨vn3, ln3⟩, ⟨vn4, ln4⟩, n5, n6⟩, ⟨g0, g1, g2, g3, g4, ⟨vg5, lg5⟩, ⟨vg6, lg6⟩, g7⟩, ⟨h0, h1, h2, ⟨vh3, lh3⟩, h4, ⟨h5, h6, ⟨vh7, lh7⟩⟩, ⟨h8, h9, ⟨vh10, lh10⟩⟩, ⟨vh11, lh11⟩⟩⟩ := o
  obtain ⟨Aw3, cw3, rfl⟩ : ∃ A c, vw3 = .slice A lw3.length c := by obtain ⟨A, c, e, _⟩ := ho.w.labels.1; exact ⟨A, c, e⟩
  obtain ⟨Aw4, cw4, rfl⟩ : ∃ A c, vw4 = .slice A lw4.length c := by obtain ⟨A, c, e, _⟩ := ho.w.select.1; exact ⟨A, c, e⟩
  obtain ⟨Aw5, cw5, rfl⟩ : ∃ A c, vw5 = .slice A lw5.length c := by obtain ⟨A, c, e, _⟩ := ho.w.tolerate.1; exact ⟨A, c, e⟩
  obtain ⟨Ap6, cp6, rfl⟩ : ∃ A c, vp6 = .slice A lp6.length c := by obtain ⟨A, c, e, _⟩ := ho.p.labels.1; exact ⟨A, c, e⟩
  obtain ⟨Ap7, cp7, rfl⟩ : ∃ A c, vp7 = .slice A lp7.length c := by obtain ⟨A, c, e, _⟩ := ho.p.select.1; exact ⟨A, c, e⟩
  obtain ⟨Ap8, cp8, rfl⟩ : ∃ A c, vp8 = .slice A lp8.length c := by obtain ⟨A, c, e, _⟩ := ho.p.tolerate.1; exact ⟨A, c, e⟩
  obtain ⟨An3, cn3, rfl⟩ : ∃ A c, vn3 = .slice A ln3.length c := by obtain ⟨A, c, e, _⟩ := ho.n.labels.1; exact ⟨A, c, e⟩
  obtain ⟨An4, cn4, rfl⟩ : ∃ A c, vn4 = .slice A ln4.length c := by obtain ⟨A, c, e, _⟩ := ho.n.taints.1; exact ⟨A, c, e⟩
  obtain ⟨Ag5, cg5, rfl⟩ : ∃ A c, vg5 = .slice A lg5.length c := by obtain ⟨A, c, e, _⟩ := ho.g.labels.1; exact ⟨A, c, e⟩
  obtain ⟨Ag6, cg6, rfl⟩ : ∃ A c, vg6 = .slice A lg6.length c := by obtain ⟨A, c, e, _⟩ := ho.g.taints.1; exact ⟨A, c, e⟩
  obtain ⟨Ah3, ch3, rfl⟩ : ∃ A c, vh3 = .slice A lh3.length c := by obtain ⟨A, c, e, _⟩ := ho.h.metrics.1; exact ⟨A, c, e⟩
  obtain ⟨Ah7, ch7, rfl⟩ : ∃ A c, vh7 = .slice A lh7.length c := by obtain ⟨A, c, e, _⟩ := ho.h.up.policies.1; exact ⟨A, c, e⟩
  obtain ⟨Ah10, ch10, rfl⟩ : ∃ A c, vh10 = .slice A lh10.length c := by obtain ⟨A, c, e, _⟩ := ho.h.down.policies.1; exact ⟨A, c, e⟩
  obtain ⟨Ah11, ch11, rfl⟩ : ∃ A c, vh11 = .slice A lh11.length c := by obtain ⟨A, c, e, _⟩ := ho.h.past.1; exact ⟨A, c, e⟩
  simp only at hk
  refine px_calls (f := 20) (fn := Try.f20) (args := [.v (.agg (Ob.mk kind name version (⟨w0, w1, w2, ⟨.slice Aw3 lw3.length cw3, lw3⟩, ⟨.slice Aw4 lw4.length cw4, lw4⟩, ⟨.slice Aw5 lw5.length cw5, lw5⟩, w6⟩ : Wl) (⟨p0, p1, p2, p3, p4, p5, ⟨.slice Ap6 lp6.length cp6, lp6⟩, ⟨.slice Ap7 lp7.length cp7, lp7⟩, ⟨.slice Ap8 lp8.length cp8, lp8⟩, p9⟩ : Pd) (⟨n0, n1, n2, ⟨.slice An3 ln3.length cn3, ln3⟩, ⟨.slice An4 ln4.length cn4, ln4⟩, n5, n6⟩ : Nd) (⟨g0, g1, g2, g3, g4, ⟨.slice Ag5 lg5.length cg5, lg5⟩, ⟨.slice Ag6 lg6.length cg6, lg6⟩, g7⟩ : Gr) (⟨h0, h1, h2, ⟨.slice Ah3 lh3.length ch3, lh3⟩, h4, ⟨h5, h6, ⟨.slice Ah7 lh7.length ch7, lh7⟩⟩, ⟨h8, h9, ⟨.slice Ah10 lh10.length ch10, lh10⟩⟩, ⟨.slice Ah11 lh11.length ch11, lh11⟩⟩ : Hp)).cells.toArray)]) (B := []) (ρ0 := fun _ => (0, 0)) (H := ⟨⟨Try.prog, [], aggR, fun _ => none, 392, litIn []⟩, w, fun _ => True, 0, [], fun _ => none, litIn [], fun s => match litIn [20] s with | true => some true | false => none⟩) aggR_ok (fun _ _ _ _ h => h) (by kernel_rfl) Try.func20 rfl (by kernel_rfl) (by show (1 : Nat) ≤ 392; decide) rfl (by simp [SV.lt]) trivial (Nat.le_refl _) (fun i b hb => by simp at hb) (fun _ => [])
    ⟨[], [], [(decide (kind < 0) || decide (4 < kind), true)]⟩ [.v (.int .i64 17)] (by kernel_rfl) ⟨fun x hx => (by cases hx), fun q hq => (by cases hq), fun p hp => ?_⟩ (fun ρ w' _ hb => ⟨rfl, hb⟩)
  rw [List.mem_singleton.1 hp]
  show (decide (kind < 0) || decide (4 < kind)) = true
  simp only [Bool.or_eq_true, decide_eq_true_eq]
  omega
theorem lawright_any (o : Ob) (w : World) (ho : o.Ok w) : Calls Try.prog 20 #[.agg o.cells.toArray] w fun e w' => e = .returned (.int .i64 (errO o)) ∧ Below w.heap.size w w' := by
  by_cases hk : 0 ≤ o.kind ∧ o.kind ≤ 4
  · have e1 : errO o = errN o.name (mayO o) := if_pos hk
    rw [e1]
    have hc : o.kind = 0 ∨ o.kind = 1 ∨ o.kind = 2 ∨ o.kind = 3 ∨ o.kind = 4 := by omega
    rcases hc with h | h | h | h | h
    · rw [show mayO o = mayW (emptyB o) o.w by unfold mayO; simp [h]]
      exact right_wl o w ho h
    · rw [show mayO o = mayP (emptyB o) o.p by unfold mayO; simp [h]]
      exact right_pd o w ho h
    · rw [show mayO o = mayN (emptyB o) o.n by unfold mayO; simp [h]]
      exact right_nd o w ho h
    · rw [show mayO o = mayG (emptyB o) o.g by unfold mayO; simp [h]]
      exact right_gr o w ho h
    · rw [show mayO o = mayH (emptyB o) o.h by unfold mayO; simp [h]]
      exact right_hp o w ho h
  · rw [show errO o = 17 from if_neg hk]
    exact right_no o w ho hk
end Go.Proofs.Ytkpklnalfomcbaa
end
section
namespace Go.Proofs.Ytkpklnalfomcbaa
open Go.RowKit Go.Proofs.Mem
set_option linter.unusedVariables false
set_option linter.unusedSimpArgs false
def SomeB (e : Ending) : Prop := ∃ b, e = .returned (.bool b)
set_option maxHeartbeats 8000000 in
set_option maxRecDepth 100000 in
theorem few_any (o : Ob) (w : World) (ho : o.Ok w) :
    Calls Try.prog 19 #[.agg o.cells.toArray] w fun e w' => SomeB e ∧ Below w.heap.size w w' := by
  obtain ⟨kind, name, version, ⟨w0, w1, w2, w3, w4, w5, w6⟩, ⟨p0, p1, p2, p3, p4, p5, p6, p7, p8, p9⟩, ⟨n0, n1, n2, n3, n4, n5, n6⟩, ⟨g0, g1, g2, g3, g4, g5, g6, g7⟩, ⟨h0, h1, h2, h3, h4, ⟨h5, h6, h7⟩, ⟨h8, h9, h10⟩, h11⟩⟩ := o
  obtain ⟨vw3, lw3⟩ := w3
  have sw3 := ho.w.labels.1
  simp only at sw3
  obtain ⟨Aw3, cw3, ew3, _⟩ := id sw3
  subst ew3
  obtain ⟨nw3, hnw3⟩ : ∃ n, n = lw3.length := ⟨_, rfl⟩
  rw [← hnw3] at sw3
  obtain ⟨vw4, lw4⟩ := w4
  have sw4 := ho.w.select.1
  simp only at sw4
  obtain ⟨Aw4, cw4, ew4, _⟩ := id sw4
  subst ew4
  obtain ⟨nw4, hnw4⟩ : ∃ n, n = lw4.length := ⟨_, rfl⟩
  rw [← hnw4] at sw4
  obtain ⟨vw5, lw5⟩ := w5
  have sw5 := ho.w.tolerate.1
  simp only at sw5
  obtain ⟨Aw5, cw5, ew5, _⟩ := id sw5
  subst ew5
  obtain ⟨nw5, hnw5⟩ : ∃ n, n = lw5.length := ⟨_, rfl⟩
  rw [← hnw5] at sw5
  obtain ⟨vp6, lp6⟩ := p6
  have sp6 := ho.p.labels.1
  simp only at sp6
  obtain ⟨Ap6, cp6, ep6, _⟩ := id sp6
  subst ep6
  obtain ⟨np6, hnp6⟩ : ∃ n, n = lp6.length := ⟨_, rfl⟩
  rw [← hnp6] at sp6
  obtain ⟨vp7, lp7⟩ := p7
  have sp7 := ho.p.select.1
  simp only at sp7
  obtain ⟨Ap7, cp7, ep7, _⟩ := id sp7
  subst ep7
  obtain ⟨np7, hnp7⟩ : ∃ n, n = lp7.length := ⟨_, rfl⟩
  rw [← hnp7] at sp7
  obtain ⟨vp8, lp8⟩ := p8
  have sp8 := ho.p.tolerate.1
  simp only at sp8
  obtain ⟨Ap8, cp8, ep8, _⟩ := id sp8
  subst ep8
  obtain ⟨np8, hnp8⟩ : ∃ n, n = lp8.length := ⟨_, rfl⟩
  rw [← hnp8] at sp8
  obtain ⟨vn3, ln3⟩ := n3
  have sn3 := ho.n.labels.1
  simp only at sn3
  obtain ⟨An3, cn3, en3, _⟩ := id sn3
  subst en3
  obtain ⟨nn3, hnn3⟩ : ∃ n, n = ln3.length := ⟨_, rfl⟩
  rw [← hnn3] at sn3
  obtain ⟨vn4, ln4⟩ := n4
  have sn4 := ho.n.taints.1
  simp only at sn4
  obtain ⟨An4, cn4, en4, _⟩ := id sn4
  subst en4
  obtain ⟨nn4, hnn4⟩ : ∃ n, n = ln4.length := ⟨_, rfl⟩
  rw [← hnn4] at sn4
  obtain ⟨vg5, lg5⟩ := g5
  have sg5 := ho.g.labels.1
  simp only at sg5
  obtain ⟨Ag5, cg5, eg5, _⟩ := id sg5
  subst eg5
  obtain ⟨ng5, hng5⟩ : ∃ n, n = lg5.length := ⟨_, rfl⟩
  rw [← hng5] at sg5
  obtain ⟨vg6, lg6⟩ := g6
  have sg6 := ho.g.taints.1
  simp only at sg6
  obtain ⟨Ag6, cg6, eg6, _⟩ := id sg6
  subst eg6
  obtain ⟨ng6, hng6⟩ : ∃ n, n = lg6.length := ⟨_, rfl⟩
  rw [← hng6] at sg6
  obtain ⟨vh3, lh3⟩ := h3
  have sh3 := ho.h.metrics.1
  simp only at sh3
  obtain ⟨Ah3, ch3, eh3, _⟩ := id sh3
  subst eh3
  obtain ⟨nh3, hnh3⟩ : ∃ n, n = lh3.length := ⟨_, rfl⟩
  rw [← hnh3] at sh3
  obtain ⟨vh7, lh7⟩ := h7
  have sh7 := ho.h.up.policies.1
  simp only at sh7
  obtain ⟨Ah7, ch7, eh7, _⟩ := id sh7
  subst eh7
  obtain ⟨nh7, hnh7⟩ : ∃ n, n = lh7.length := ⟨_, rfl⟩
  rw [← hnh7] at sh7
  obtain ⟨vh10, lh10⟩ := h10
  have sh10 := ho.h.down.policies.1
  simp only at sh10
  obtain ⟨Ah10, ch10, eh10, _⟩ := id sh10
  subst eh10
  obtain ⟨nh10, hnh10⟩ : ∃ n, n = lh10.length := ⟨_, rfl⟩
  rw [← hnh10] at sh10
  obtain ⟨vh11, lh11⟩ := h11
  have sh11 := ho.h.past.1
  simp only at sh11
  obtain ⟨Ah11, ch11, eh11, _⟩ := id sh11
  subst eh11
  obtain ⟨nh11, hnh11⟩ : ∃ n, n = lh11.length := ⟨_, rfl⟩
  rw [← hnh11] at sh11
  simp only [Ob.cells, Wl.cells, Pd.cells, Nd.cells, Gr.cells, Hp.cells, List.cons_append, List.nil_append]
  rw [← hnw3, ← hnw4, ← hnw5, ← hnp6, ← hnp7, ← hnp8, ← hnn3, ← hnn4, ← hng5, ← hng6, ← hnh3, ← hnh7, ← hnh10, ← hnh11]
  have Hw3 := Lib.hid hnw3
  clear hnw3
  have Hw4 := Lib.hid hnw4
  clear hnw4
  have Hw5 := Lib.hid hnw5
  clear hnw5
  have Hp6 := Lib.hid hnp6
  clear hnp6
  have Hp7 := Lib.hid hnp7
  clear hnp7
  have Hp8 := Lib.hid hnp8
  clear hnp8
  have Hn3 := Lib.hid hnn3
  clear hnn3
  have Hn4 := Lib.hid hnn4
  clear hnn4
  have Hg5 := Lib.hid hng5
  clear hng5
  have Hg6 := Lib.hid hng6
  clear hng6
  have Hh3 := Lib.hid hnh3
  clear hnh3
  have Hh7 := Lib.hid hnh7
  clear hnh7
  have Hh10 := Lib.hid hnh10
  clear hnh10
  have Hh11 := Lib.hid hnh11
  clear hnh11
  have hkb := Bk.new w 57 #[.int .i64 kind, .string name, .int .u64 version, .int .i64 w0, .int .i64 w1, .int .i64 w2, .slice Aw3 nw3 cw3, .slice Aw4 nw4 cw4, .slice Aw5 nw5 cw5, .int .i64 w6, .string p0, .string p1, .int .i64 p2, .int .i64 p3, .int .i64 p4, .int .i64 p5, .slice Ap6 np6 cp6, .slice Ap7 np7 cp7, .slice Ap8 np8 cp8, .int .i64 p9, .string n0, .int .i64 n1, .int .i64 n2, .slice An3 nn3 cn3, .slice An4 nn4 cn4, .int .i64 n5, .bool n6, .int .i64 g0, .int .i64 g1, .int .i64 g2, .int .i64 g3, .int .i64 g4, .slice Ag5 ng5 cg5, .slice Ag6 ng6 cg6, .int .i64 g7, .string h0, .int .i64 h1, .int .i64 h2, .slice Ah3 nh3 ch3, .int .i64 h4, .int .i64 h5, .int .i64 h6, .slice Ah7 nh7 ch7, .int .i64 h8, .int .i64 h9, .slice Ah10 nh10 ch10, .slice Ah11 nh11 ch11]
  go_enter Try.func19, Try.ntmps19
  go_wp2_with fail
  obtain ⟨Wb, hWb⟩ : ∃ Wb, Wb = w.alloc (.cells #[.int .i64 kind, .string name, .int .u64 version, .int .i64 w0, .int .i64 w1, .int .i64 w2, .slice Aw3 nw3 cw3, .slice Aw4 nw4 cw4, .slice Aw5 nw5 cw5, .int .i64 w6, .string p0, .string p1, .int .i64 p2, .int .i64 p3, .int .i64 p4, .int .i64 p5, .slice Ap6 np6 cp6, .slice Ap7 np7 cp7, .slice Ap8 np8 cp8, .int .i64 p9, .string n0, .int .i64 n1, .int .i64 n2, .slice An3 nn3 cn3, .slice An4 nn4 cn4, .int .i64 n5, .bool n6, .int .i64 g0, .int .i64 g1, .int .i64 g2, .int .i64 g3, .int .i64 g4, .slice Ag5 ng5 cg5, .slice Ag6 ng6 cg6, .int .i64 g7, .string h0, .int .i64 h1, .int .i64 h2, .slice Ah3 nh3 ch3, .int .i64 h4, .int .i64 h5, .int .i64 h6, .slice Ah7 nh7 ch7, .int .i64 h8, .int .i64 h9, .slice Ah10 nh10 ch10, .slice Ah11 nh11 ch11] 57) := ⟨_, rfl⟩
  have hBb : Below w.heap.size w Wb := by rw [hWb]; exact below_al _ _
  rw [← hWb] at hkb ⊢
  have bc3 : Wb.cell? ⟨w.heap.size, 3, none⟩ = some (.int .i64 w0) := hkb.cell 3
  have bc4 : Wb.cell? ⟨w.heap.size, 4, none⟩ = some (.int .i64 w1) := hkb.cell 4
  have bc5 : Wb.cell? ⟨w.heap.size, 5, none⟩ = some (.int .i64 w2) := hkb.cell 5
  have bc6 : Wb.cell? ⟨w.heap.size, 6, none⟩ = some (.slice Aw3 nw3 cw3) := hkb.cell 6
  have bc7 : Wb.cell? ⟨w.heap.size, 7, none⟩ = some (.slice Aw4 nw4 cw4) := hkb.cell 7
  have bc8 : Wb.cell? ⟨w.heap.size, 8, none⟩ = some (.slice Aw5 nw5 cw5) := hkb.cell 8
  have bc9 : Wb.cell? ⟨w.heap.size, 9, none⟩ = some (.int .i64 w6) := hkb.cell 9
  have bc10 : Wb.cell? ⟨w.heap.size, 10, none⟩ = some (.string p0) := hkb.cell 10
  have bc11 : Wb.cell? ⟨w.heap.size, 11, none⟩ = some (.string p1) := hkb.cell 11
  have bc12 : Wb.cell? ⟨w.heap.size, 12, none⟩ = some (.int .i64 p2) := hkb.cell 12
  have bc13 : Wb.cell? ⟨w.heap.size, 13, none⟩ = some (.int .i64 p3) := hkb.cell 13
  have bc14 : Wb.cell? ⟨w.heap.size, 14, none⟩ = some (.int .i64 p4) := hkb.cell 14
  have bc15 : Wb.cell? ⟨w.heap.size, 15, none⟩ = some (.int .i64 p5) := hkb.cell 15
  have bc16 : Wb.cell? ⟨w.heap.size, 16, none⟩ = some (.slice Ap6 np6 cp6) := hkb.cell 16
  have bc17 : Wb.cell? ⟨w.heap.size, 17, none⟩ = some (.slice Ap7 np7 cp7) := hkb.cell 17
  have bc18 : Wb.cell? ⟨w.heap.size, 18, none⟩ = some (.slice Ap8 np8 cp8) := hkb.cell 18
  have bc19 : Wb.cell? ⟨w.heap.size, 19, none⟩ = some (.int .i64 p9) := hkb.cell 19
  have bc20 : Wb.cell? ⟨w.heap.size, 20, none⟩ = some (.string n0) := hkb.cell 20
  have bc21 : Wb.cell? ⟨w.heap.size, 21, none⟩ = some (.int .i64 n1) := hkb.cell 21
  have bc22 : Wb.cell? ⟨w.heap.size, 22, none⟩ = some (.int .i64 n2) := hkb.cell 22
  have bc23 : Wb.cell? ⟨w.heap.size, 23, none⟩ = some (.slice An3 nn3 cn3) := hkb.cell 23
  have bc24 : Wb.cell? ⟨w.heap.size, 24, none⟩ = some (.slice An4 nn4 cn4) := hkb.cell 24
  have bc25 : Wb.cell? ⟨w.heap.size, 25, none⟩ = some (.int .i64 n5) := hkb.cell 25
  have bc26 : Wb.cell? ⟨w.heap.size, 26, none⟩ = some (.bool n6) := hkb.cell 26
  have bc27 : Wb.cell? ⟨w.heap.size, 27, none⟩ = some (.int .i64 g0) := hkb.cell 27
  have bc28 : Wb.cell? ⟨w.heap.size, 28, none⟩ = some (.int .i64 g1) := hkb.cell 28
  have bc29 : Wb.cell? ⟨w.heap.size, 29, none⟩ = some (.int .i64 g2) := hkb.cell 29
  have bc30 : Wb.cell? ⟨w.heap.size, 30, none⟩ = some (.int .i64 g3) := hkb.cell 30
  have bc31 : Wb.cell? ⟨w.heap.size, 31, none⟩ = some (.int .i64 g4) := hkb.cell 31
  have bc32 : Wb.cell? ⟨w.heap.size, 32, none⟩ = some (.slice Ag5 ng5 cg5) := hkb.cell 32
  have bc33 : Wb.cell? ⟨w.heap.size, 33, none⟩ = some (.slice Ag6 ng6 cg6) := hkb.cell 33
  have bc34 : Wb.cell? ⟨w.heap.size, 34, none⟩ = some (.int .i64 g7) := hkb.cell 34
  have bc35 : Wb.cell? ⟨w.heap.size, 35, none⟩ = some (.string h0) := hkb.cell 35
  have bc36 : Wb.cell? ⟨w.heap.size, 36, none⟩ = some (.int .i64 h1) := hkb.cell 36
  have bc37 : Wb.cell? ⟨w.heap.size, 37, none⟩ = some (.int .i64 h2) := hkb.cell 37
  have bc38 : Wb.cell? ⟨w.heap.size, 38, none⟩ = some (.slice Ah3 nh3 ch3) := hkb.cell 38
  have bc39 : Wb.cell? ⟨w.heap.size, 39, none⟩ = some (.int .i64 h4) := hkb.cell 39
  have bc40 : Wb.cell? ⟨w.heap.size, 40, none⟩ = some (.int .i64 h5) := hkb.cell 40
  have bc41 : Wb.cell? ⟨w.heap.size, 41, none⟩ = some (.int .i64 h6) := hkb.cell 41
  have bc42 : Wb.cell? ⟨w.heap.size, 42, none⟩ = some (.slice Ah7 nh7 ch7) := hkb.cell 42
  have bc43 : Wb.cell? ⟨w.heap.size, 43, none⟩ = some (.int .i64 h8) := hkb.cell 43
  have bc44 : Wb.cell? ⟨w.heap.size, 44, none⟩ = some (.int .i64 h9) := hkb.cell 44
  have bc45 : Wb.cell? ⟨w.heap.size, 45, none⟩ = some (.slice Ah10 nh10 ch10) := hkb.cell 45
  have bc46 : Wb.cell? ⟨w.heap.size, 46, none⟩ = some (.slice Ah11 nh11 ch11) := hkb.cell 46
  clear hkb hWb
  refine wp_region_vars (W := Wb) (B := Wb.heap.size)
    (ps := [⟨0, 10, .pointer (some ⟨w.heap.size, 3, none⟩)⟩,
      ⟨1, 11, .agg #[.int .i64 w0, .int .i64 w1, .int .i64 w2, .slice Aw3 nw3 cw3, .slice Aw4 nw4 cw4, .slice Aw5 nw5 cw5, .int .i64 w6]⟩,
      ⟨2, 12, .pointer (some ⟨w.heap.size, 10, none⟩)⟩,
      ⟨3, 13, .agg #[.string p0, .string p1, .int .i64 p2, .int .i64 p3, .int .i64 p4, .int .i64 p5, .slice Ap6 np6 cp6, .slice Ap7 np7 cp7, .slice Ap8 np8 cp8, .int .i64 p9]⟩,
      ⟨4, 14, .pointer (some ⟨w.heap.size, 20, none⟩)⟩,
      ⟨5, 15, .agg #[.string n0, .int .i64 n1, .int .i64 n2, .slice An3 nn3 cn3, .slice An4 nn4 cn4, .int .i64 n5, .bool n6]⟩,
      ⟨6, 16, .pointer (some ⟨w.heap.size, 27, none⟩)⟩,
      ⟨7, 17, .agg #[.int .i64 g0, .int .i64 g1, .int .i64 g2, .int .i64 g3, .int .i64 g4, .slice Ag5 ng5 cg5, .slice Ag6 ng6 cg6, .int .i64 g7]⟩,
      ⟨8, 18, .pointer (some ⟨w.heap.size, 35, none⟩)⟩,
      ⟨9, 19, .agg #[.string h0, .int .i64 h1, .int .i64 h2, .slice Ah3 nh3 ch3, .int .i64 h4, .int .i64 h5, .int .i64 h6, .slice Ah7 nh7 ch7, .int .i64 h8, .int .i64 h9, .slice Ah10 nh10 ch10, .slice Ah11 nh11 ch11]⟩])
    (vs := [⟨10, 15, 3, 42, #[.int .i64 0, .int .i64 0, .int .i64 0, .slice none 0 0, .slice none 0 0, .slice none 0 0, .int .i64 0], #[.int .i64 w0, .int .i64 w1, .int .i64 w2, .slice Aw3 nw3 cw3, .slice Aw4 nw4 cw4, .slice Aw5 nw5 cw5, .int .i64 w6]⟩,
      ⟨11, 16, 4, 44, #[.string ⟨#[]⟩, .string ⟨#[]⟩, .int .i64 0, .int .i64 0, .int .i64 0, .int .i64 0, .slice none 0 0, .slice none 0 0, .slice none 0 0, .int .i64 0], #[.string p0, .string p1, .int .i64 p2, .int .i64 p3, .int .i64 p4, .int .i64 p5, .slice Ap6 np6 cp6, .slice Ap7 np7 cp7, .slice Ap8 np8 cp8, .int .i64 p9]⟩,
      ⟨12, 17, 5, 46, #[.string ⟨#[]⟩, .int .i64 0, .int .i64 0, .slice none 0 0, .slice none 0 0, .int .i64 0, .bool false], #[.string n0, .int .i64 n1, .int .i64 n2, .slice An3 nn3 cn3, .slice An4 nn4 cn4, .int .i64 n5, .bool n6]⟩,
      ⟨13, 18, 6, 48, #[.int .i64 0, .int .i64 0, .int .i64 0, .int .i64 0, .int .i64 0, .slice none 0 0, .slice none 0 0, .int .i64 0], #[.int .i64 g0, .int .i64 g1, .int .i64 g2, .int .i64 g3, .int .i64 g4, .slice Ag5 ng5 cg5, .slice Ag6 ng6 cg6, .int .i64 g7]⟩,
      ⟨14, 19, 7, 55, #[.string ⟨#[]⟩, .int .i64 0, .int .i64 0, .slice none 0 0, .int .i64 0, .int .i64 0, .int .i64 0, .slice none 0 0, .int .i64 0, .int .i64 0, .slice none 0 0, .slice none 0 0], #[.string h0, .int .i64 h1, .int .i64 h2, .slice Ah3 nh3 ch3, .int .i64 h4, .int .i64 h5, .int .i64 h6, .slice Ah7 nh7 ch7, .int .i64 h8, .int .i64 h9, .slice Ah10 nh10 ch10, .slice Ah11 nh11 ch11]⟩])
    (by kernel_rfl) ?_ (Nat.le_refl _) (Below.refl _ _) ?_
  · constructor
    · intro p hp
      simp only [List.mem_cons, List.not_mem_nil, or_false] at hp
      rcases hp with rfl | rfl | rfl | rfl | rfl | rfl | rfl | rfl | rfl | rfl
      · refine ⟨_, rfl, rfl, rfl, fun a w' hA hB => ?_⟩
        have e1 := at_other hA 1 _ rfl rfl rfl
        clear hA
        go_simp
      · refine ⟨_, rfl, rfl, rfl, fun a w' hA hB => ?_⟩
        have e1 := at_pure hA 0 _ rfl rfl
        clear hA
        have k3 := keep_cell hB bc3
        have k4 := keep_cell hB bc4
        have k5 := keep_cell hB bc5
        have k6 := keep_cell hB bc6
        have k7 := keep_cell hB bc7
        have k8 := keep_cell hB bc8
        have k9 := keep_cell hB bc9
        clear hB bc3 bc4 bc5 bc6 bc7 bc8 bc9 bc10 bc11 bc12 bc13 bc14 bc15 bc16 bc17 bc18 bc19 bc20 bc21 bc22 bc23 bc24 bc25 bc26 bc27 bc28 bc29 bc30 bc31 bc32 bc33 bc34 bc35 bc36 bc37 bc38 bc39 bc40 bc41 bc42 bc43 bc44 bc45 bc46
        go_simp
      · refine ⟨_, rfl, rfl, rfl, fun a w' hA hB => ?_⟩
        have e1 := at_other hA 1 _ rfl rfl rfl
        clear hA
        go_simp
      · refine ⟨_, rfl, rfl, rfl, fun a w' hA hB => ?_⟩
        have e1 := at_pure hA 2 _ rfl rfl
        clear hA
        have k10 := keep_cell hB bc10
        have k11 := keep_cell hB bc11
        have k12 := keep_cell hB bc12
        have k13 := keep_cell hB bc13
        have k14 := keep_cell hB bc14
        have k15 := keep_cell hB bc15
        have k16 := keep_cell hB bc16
        have k17 := keep_cell hB bc17
        have k18 := keep_cell hB bc18
        have k19 := keep_cell hB bc19
        clear hB bc3 bc4 bc5 bc6 bc7 bc8 bc9 bc10 bc11 bc12 bc13 bc14 bc15 bc16 bc17 bc18 bc19 bc20 bc21 bc22 bc23 bc24 bc25 bc26 bc27 bc28 bc29 bc30 bc31 bc32 bc33 bc34 bc35 bc36 bc37 bc38 bc39 bc40 bc41 bc42 bc43 bc44 bc45 bc46
        go_simp
      · refine ⟨_, rfl, rfl, rfl, fun a w' hA hB => ?_⟩
        have e1 := at_other hA 1 _ rfl rfl rfl
        clear hA
        go_simp
      · refine ⟨_, rfl, rfl, rfl, fun a w' hA hB => ?_⟩
        have e1 := at_pure hA 4 _ rfl rfl
        clear hA
        have k20 := keep_cell hB bc20
        have k21 := keep_cell hB bc21
        have k22 := keep_cell hB bc22
        have k23 := keep_cell hB bc23
        have k24 := keep_cell hB bc24
        have k25 := keep_cell hB bc25
        have k26 := keep_cell hB bc26
        clear hB bc3 bc4 bc5 bc6 bc7 bc8 bc9 bc10 bc11 bc12 bc13 bc14 bc15 bc16 bc17 bc18 bc19 bc20 bc21 bc22 bc23 bc24 bc25 bc26 bc27 bc28 bc29 bc30 bc31 bc32 bc33 bc34 bc35 bc36 bc37 bc38 bc39 bc40 bc41 bc42 bc43 bc44 bc45 bc46
        go_simp
      · refine ⟨_, rfl, rfl, rfl, fun a w' hA hB => ?_⟩
        have e1 := at_other hA 1 _ rfl rfl rfl
        clear hA
        go_simp
      · refine ⟨_, rfl, rfl, rfl, fun a w' hA hB => ?_⟩
        have e1 := at_pure hA 6 _ rfl rfl
        clear hA
        have k27 := keep_cell hB bc27
        have k28 := keep_cell hB bc28
        have k29 := keep_cell hB bc29
        have k30 := keep_cell hB bc30
        have k31 := keep_cell hB bc31
        have k32 := keep_cell hB bc32
        have k33 := keep_cell hB bc33
        have k34 := keep_cell hB bc34
        clear hB bc3 bc4 bc5 bc6 bc7 bc8 bc9 bc10 bc11 bc12 bc13 bc14 bc15 bc16 bc17 bc18 bc19 bc20 bc21 bc22 bc23 bc24 bc25 bc26 bc27 bc28 bc29 bc30 bc31 bc32 bc33 bc34 bc35 bc36 bc37 bc38 bc39 bc40 bc41 bc42 bc43 bc44 bc45 bc46
        go_simp
      · refine ⟨_, rfl, rfl, rfl, fun a w' hA hB => ?_⟩
        have e1 := at_other hA 1 _ rfl rfl rfl
        clear hA
        go_simp
      · refine ⟨_, rfl, rfl, rfl, fun a w' hA hB => ?_⟩
        have e1 := at_pure hA 8 _ rfl rfl
        clear hA
        have k35 := keep_cell hB bc35
        have k36 := keep_cell hB bc36
        have k37 := keep_cell hB bc37
        have k38 := keep_cell hB bc38
        have k39 := keep_cell hB bc39
        have k40 := keep_cell hB bc40
        have k41 := keep_cell hB bc41
        have k42 := keep_cell hB bc42
        have k43 := keep_cell hB bc43
        have k44 := keep_cell hB bc44
        have k45 := keep_cell hB bc45
        have k46 := keep_cell hB bc46
        clear hB bc3 bc4 bc5 bc6 bc7 bc8 bc9 bc10 bc11 bc12 bc13 bc14 bc15 bc16 bc17 bc18 bc19 bc20 bc21 bc22 bc23 bc24 bc25 bc26 bc27 bc28 bc29 bc30 bc31 bc32 bc33 bc34 bc35 bc36 bc37 bc38 bc39 bc40 bc41 bc42 bc43 bc44 bc45 bc46
        go_simp
    · intro v hv
      simp only [List.mem_cons, List.not_mem_nil, or_false] at hv
      rcases hv with rfl | rfl | rfl | rfl | rfl
      all_goals
        refine ⟨_, rfl, rfl, rfl, fun a w' => ?_⟩
        go_simp
    · intro v hv
      simp only [List.mem_cons, List.not_mem_nil, or_false] at hv
      rcases hv with rfl | rfl | rfl | rfl | rfl
      · refine ⟨_, rfl, rfl, rfl, deps_of rfl, fun a w' g hA e2 hk => ?_⟩
        have e1 := at_pure hA 1 _ rfl rfl
        clear hA
        have k0 := hk.cell 0
        have f0 := hk.frozen 0
        have k1 := hk.cell 1
        have f1 := hk.frozen 1
        have k2 := hk.cell 2
        have f2 := hk.frozen 2
        have k3 := hk.cell 3
        have f3 := hk.frozen 3
        have k4 := hk.cell 4
        have f4 := hk.frozen 4
        have k5 := hk.cell 5
        have f5 := hk.frozen 5
        have k6 := hk.cell 6
        have f6 := hk.frozen 6
        clear hk
        go_simp
        rfl
      · refine ⟨_, rfl, rfl, rfl, deps_of rfl, fun a w' g hA e2 hk => ?_⟩
        have e1 := at_pure hA 3 _ rfl rfl
        clear hA
        have k0 := hk.cell 0
        have f0 := hk.frozen 0
        have k1 := hk.cell 1
        have f1 := hk.frozen 1
        have k2 := hk.cell 2
        have f2 := hk.frozen 2
        have k3 := hk.cell 3
        have f3 := hk.frozen 3
        have k4 := hk.cell 4
        have f4 := hk.frozen 4
        have k5 := hk.cell 5
        have f5 := hk.frozen 5
        have k6 := hk.cell 6
        have f6 := hk.frozen 6
        have k7 := hk.cell 7
        have f7 := hk.frozen 7
        have k8 := hk.cell 8
        have f8 := hk.frozen 8
        have k9 := hk.cell 9
        have f9 := hk.frozen 9
        clear hk
        go_simp
        rfl
      · refine ⟨_, rfl, rfl, rfl, deps_of rfl, fun a w' g hA e2 hk => ?_⟩
        have e1 := at_pure hA 5 _ rfl rfl
        clear hA
        have k0 := hk.cell 0
        have f0 := hk.frozen 0
        have k1 := hk.cell 1
        have f1 := hk.frozen 1
        have k2 := hk.cell 2
        have f2 := hk.frozen 2
        have k3 := hk.cell 3
        have f3 := hk.frozen 3
        have k4 := hk.cell 4
        have f4 := hk.frozen 4
        have k5 := hk.cell 5
        have f5 := hk.frozen 5
        have k6 := hk.cell 6
        have f6 := hk.frozen 6
        clear hk
        go_simp
        rfl
      · refine ⟨_, rfl, rfl, rfl, deps_of rfl, fun a w' g hA e2 hk => ?_⟩
        have e1 := at_pure hA 7 _ rfl rfl
        clear hA
        have k0 := hk.cell 0
        have f0 := hk.frozen 0
        have k1 := hk.cell 1
        have f1 := hk.frozen 1
        have k2 := hk.cell 2
        have f2 := hk.frozen 2
        have k3 := hk.cell 3
        have f3 := hk.frozen 3
        have k4 := hk.cell 4
        have f4 := hk.frozen 4
        have k5 := hk.cell 5
        have f5 := hk.frozen 5
        have k6 := hk.cell 6
        have f6 := hk.frozen 6
        have k7 := hk.cell 7
        have f7 := hk.frozen 7
        clear hk
        go_simp
        rfl
      · refine ⟨_, rfl, rfl, rfl, deps_of rfl, fun a w' g hA e2 hk => ?_⟩
        have e1 := at_pure hA 9 _ rfl rfl
        clear hA
        have k0 := hk.cell 0
        have f0 := hk.frozen 0
        have k1 := hk.cell 1
        have f1 := hk.frozen 1
        have k2 := hk.cell 2
        have f2 := hk.frozen 2
        have k3 := hk.cell 3
        have f3 := hk.frozen 3
        have k4 := hk.cell 4
        have f4 := hk.frozen 4
        have k5 := hk.cell 5
        have f5 := hk.frozen 5
        have k6 := hk.cell 6
        have f6 := hk.frozen 6
        have k7 := hk.cell 7
        have f7 := hk.frozen 7
        have k8 := hk.cell 8
        have f8 := hk.frozen 8
        have k9 := hk.cell 9
        have f9 := hk.frozen 9
        have k10 := hk.cell 10
        have f10 := hk.frozen 10
        have k11 := hk.cell 11
        have f11 := hk.frozen 11
        clear hk
        go_simp
        rfl
    · intro v hv
      simp only [List.mem_cons, List.not_mem_nil, or_false] at hv
      rcases hv with rfl | rfl | rfl | rfl | rfl <;> rfl
    · show ∀ i, i < 20 → i ∈ [0, 1, 2, 3, 4, 5, 6, 7, 8, 9, 10, 11, 12, 13, 14, 15, 16, 17, 18, 19]
      decide
    · show ([0, 1, 2, 3, 4, 5, 6, 7, 8, 9, 10, 11, 12, 13, 14, 15, 16, 17, 18, 19] : List Nat).Nodup
      decide
    · show ([10, 11, 12, 13, 14, 15, 16, 17, 18, 19, 3, 4, 5, 6, 7] : List Nat).Nodup
      decide
    · show ∀ s ∈ ([10, 11, 12, 13, 14, 15, 16, 17, 18, 19, 3, 4, 5, 6, 7] : List Nat), s < 72
      decide
    · exact up_of (by decide +kernel)
  · intro gg W2 hB2 hv hd
    clear hd
    have hBw : Below w.heap.size w W2 := hBb.trans (hB2.mono hBb.size)
    obtain ⟨_, k3⟩ := hv _ (List.mem_cons_self ..)
    obtain ⟨_, k4⟩ := hv _ (List.mem_cons_of_mem _ (List.mem_cons_self ..))
    obtain ⟨_, k5⟩ := hv _ (List.mem_cons_of_mem _ (List.mem_cons_of_mem _ (List.mem_cons_self ..)))
    obtain ⟨_, k6⟩ := hv _ (List.mem_cons_of_mem _ (List.mem_cons_of_mem _ (List.mem_cons_of_mem _ (List.mem_cons_self ..))))
    obtain ⟨_, k7⟩ := hv _ (List.mem_cons_of_mem _ (List.mem_cons_of_mem _ (List.mem_cons_of_mem _ (List.mem_cons_of_mem _ (List.mem_cons_self ..)))))
    clear hv hB2 hBb bc3 bc4 bc5 bc6 bc7 bc8 bc9 bc10 bc11 bc12 bc13 bc14 bc15 bc16 bc17 bc18 bc19 bc20 bc21 bc22 bc23 bc24 bc25 bc26 bc27 bc28 bc29 bc30 bc31 bc32 bc33 bc34 bc35 bc36 bc37 bc38 bc39 bc40 bc41 bc42 bc43 bc44 bc45 bc46
    simp only at k3 k4 k5 k6 k7
    simp only [putAll, setsOf, List.map_cons, List.map_nil, List.cons_append, List.nil_append, List.foldl_cons, List.foldl_nil, List.setIfInBounds_toArray, List.set_cons_zero, List.set_cons_succ]
    generalize gg 3 = G3 at k3 ⊢
    generalize gg 4 = G4 at k4 ⊢
    generalize gg 5 = G5 at k5 ⊢
    generalize gg 6 = G6 at k6 ⊢
    generalize gg 7 = G7 at k7 ⊢
    obtain ⟨W3, hW3⟩ : ∃ W3, W3 = W2.alloc (.cells #[.slice Aw3 nw3 cw3, .slice Aw5 nw5 cw5, .slice Ap6 np6 cp6, .slice Ap8 np8 cp8, .slice An3 nn3 cn3, .slice An4 nn4 cn4, .slice Ag5 ng5 cg5, .slice Ag6 ng6 cg6] 39) := ⟨_, rfl⟩
    have kk := Bk.new W2 39 #[.slice Aw3 nw3 cw3, .slice Aw5 nw5 cw5, .slice Ap6 np6 cp6, .slice Ap8 np8 cp8, .slice An3 nn3 cn3, .slice An4 nn4 cn4, .slice Ag5 ng5 cg5, .slice Ag6 ng6 cg6]
    have hB3 : Below w.heap.size w W3 := by rw [hW3]; exact hBw.alloc hBw.size _
    have j3 := k3.alloc (.cells #[.slice Aw3 nw3 cw3, .slice Aw5 nw5 cw5, .slice Ap6 np6 cp6, .slice Ap8 np8 cp8, .slice An3 nn3 cn3, .slice An4 nn4 cn4, .slice Ag5 ng5 cg5, .slice Ag6 ng6 cg6] 39)
    have j4 := k4.alloc (.cells #[.slice Aw3 nw3 cw3, .slice Aw5 nw5 cw5, .slice Ap6 np6 cp6, .slice Ap8 np8 cp8, .slice An3 nn3 cn3, .slice An4 nn4 cn4, .slice Ag5 ng5 cg5, .slice Ag6 ng6 cg6] 39)
    have j7 := k7.alloc (.cells #[.slice Aw3 nw3 cw3, .slice Aw5 nw5 cw5, .slice Ap6 np6 cp6, .slice Ap8 np8 cp8, .slice An3 nn3 cn3, .slice An4 nn4 cn4, .slice Ag5 ng5 cg5, .slice Ag6 ng6 cg6] 39)
    rw [← hW3] at kk j3 j4 j7
    have HW3 := Lib.hid hW3
    clear hW3
    have x33 : W2.cell? ⟨G3, 3, none⟩ = some (.slice Aw3 nw3 cw3) := k3.cell 3
    have x35 : W2.cell? ⟨G3, 5, none⟩ = some (.slice Aw5 nw5 cw5) := k3.cell 5
    have x46 : W2.cell? ⟨G4, 6, none⟩ = some (.slice Ap6 np6 cp6) := k4.cell 6
    have x48 : W2.cell? ⟨G4, 8, none⟩ = some (.slice Ap8 np8 cp8) := k4.cell 8
    have x53 : W2.cell? ⟨G5, 3, none⟩ = some (.slice An3 nn3 cn3) := k5.cell 3
    have x54 : W2.cell? ⟨G5, 4, none⟩ = some (.slice An4 nn4 cn4) := k5.cell 4
    have x65 : W2.cell? ⟨G6, 5, none⟩ = some (.slice Ag5 ng5 cg5) := k6.cell 5
    have x66 : W2.cell? ⟨G6, 6, none⟩ = some (.slice Ag6 ng6 cg6) := k6.cell 6
    clear k3 k4 k5 k6 k7
    go_wp2_with fail
    rw [← HW3.out]
    clear x33 x35 x46 x48 x53 x54 x65 x66
    have ee : ∀ k : Nat, k < 8 → ∃ A n c, W3.cell? ⟨W2.heap.size, k, none⟩ = some (.slice A n c) := by
      intro k hk
      rw [kk.cell]
      match k, hk with
      | 0, _ => exact ⟨_, _, _, rfl⟩
      | 1, _ => exact ⟨_, _, _, rfl⟩
      | 2, _ => exact ⟨_, _, _, rfl⟩
      | 3, _ => exact ⟨_, _, _, rfl⟩
      | 4, _ => exact ⟨_, _, _, rfl⟩
      | 5, _ => exact ⟨_, _, _, rfl⟩
      | 6, _ => exact ⟨_, _, _, rfl⟩
      | 7, _ => exact ⟨_, _, _, rfl⟩
    have EE := Lib.hid ee
    clear ee kk HW3
    go_loop [38, 9] (fun i s => ∃ k : Nat, k ≤ 8 ∧ i = .int .i64 k) (fun i s => 8 - (intOf i).toNat)
    case atStart => exact ⟨0, by omega, rfl⟩
    case round =>
      obtain ⟨k, hk, rfl⟩ := hrel
      by_cases hlt : k < 8
      · obtain ⟨A, n, c, hcell⟩ := EE.out k hlt
        have hn : n ≤ 30 ∨ 30 < n := by omega
        have i0 : (0 : Int) ≤ (k : Int) := by omega
        have i1 : (k : Int) < 8 := by omega
        clear j3 j4 j7 EE
        rcases hn with hn | hn
        · have hnI : ((n : Nat) : Int) ≤ 30 := by omega
          go_wp2_with fail
          exact ⟨⟨k + 1, by omega, by go_num⟩, by simp [intOf]; omega⟩
        · have hnI : (30 : Int) < ((n : Nat) : Int) := by omega
          go_wp2_with fail
          go_ret
          exact ⟨⟨false, rfl⟩, hB3⟩
      · have x34 : W3.cell? ⟨G3, 4, none⟩ = some (.slice Aw4 nw4 cw4) := j3.cell 4
        have x47 : W3.cell? ⟨G4, 7, none⟩ = some (.slice Ap7 np7 cp7) := j4.cell 7
        have x73 : W3.cell? ⟨G7, 3, none⟩ = some (.slice Ah3 nh3 ch3) := j7.cell 3
        have x77 : W3.cell? ⟨G7, 7, none⟩ = some (.slice Ah7 nh7 ch7) := j7.cell 7
        have x710 : W3.cell? ⟨G7, 10, none⟩ = some (.slice Ah10 nh10 ch10) := j7.cell 10
        have x711 : W3.cell? ⟨G7, 11, none⟩ = some (.slice Ah11 nh11 ch11) := j7.cell 11
        clear j3 j4 j7 EE
        go_wp2_with fail
        go_ret
        exact ⟨⟨_, rfl⟩, hB3⟩
end Go.Proofs.Ytkpklnalfomcbaa
end
section
namespace Go.Proofs.Mem
set_option linter.unusedVariables false
open Go.RowKit
open Go.Maps (Keyed)

def asIs (v : Value) : Option (DataW Value × List MemPlace) := some (.held v, [])
def Mp (P : Program) (w : World) (k : TypeId) (b n : Nat) (D : DataW Value) : Prop := w.ownsMap P k asIs b n D
def valAt (D : DataW Value) (kl : Lit) (z : Value) : Value := match D.atKey kl (.held z) with | .held v => v | _ => z

theorem valAt_of {D : DataW Value} {kl : Lit} {z v : Value} {ps : List MemPlace} (h : asIs v = some (D.atKey kl (.held z), ps)) : v = valAt D kl z := by
  unfold asIs at h
  injection h with h
  injection h with h1 h2
  unfold valAt
  rw [← h1]
theorem valAt_put_same {D : DataW Value} {k : Lit} (hD : Maps.IsMap D) (hk : WideAt.IsKeyLit k) (v z : Value) : valAt (D.put k (.held v)) k z = v := by
  unfold valAt; rw [Maps.atKey_put_same hD hk]
theorem valAt_put_other {D : DataW Value} {k k' : Lit} (hne : k' ≠ k) (v z : Value) : valAt (D.put k (.held v)) k' z = valAt D k' z := by
  unfold valAt; rw [Maps.atKey_put_other hne]
section
variable {P : Program} {w w' : World} {k : TypeId} {b n : Nat} {D : DataW Value}
theorem Mp.made (w : World) (P : Program) (k : TypeId) : Mp P (w.alloc (.map #[] 0)) k w.heap.size 0 (.map []) := World.ownsMap_made w P k asIs
theorem Mp.lt (h : Mp P w k b n D) : b < w.heap.size := World.ownsMap.lt h
theorem Mp.mono (h : Mp P w k b n D) {n' : Nat} (hn : n ≤ n') : Mp P w k b n' D := World.ownsMap.mono h hn
theorem Mp.isMap (h : Mp P w k b n D) : Maps.IsMap D := World.ownsMap.isMap h
theorem Mp.size_le (h : Mp P w k b n D) : Maps.size D ≤ n := World.ownsMap.size_le h
theorem Mp.of_block (h : Mp P w k b n D) (hb : w'.heap[b]? = w.heap[b]?) : Mp P w' k b n D := by
  obtain ⟨es, clock, h1, h2, h3, h4⟩ := h
  exact ⟨es, clock, hb.trans h1, h2, h3, h4⟩
theorem Mp.alloc (h : Mp P w k b n D) (o : Obj) : Mp P (w.alloc o) k b n D := World.ownsMap.alloc h o
theorem Mp.below (h : Mp P w k b n D) (hb : Below w.heap.size w w') : Mp P w' k b n D := h.of_block (hb.block b h.lt)
theorem Mp.grown (h : Mp P w k b n D) {row : Option Nat} (hb : w.grownBy w' row) (hg : some b ≠ row) : Mp P w' k b n D := World.ownsMap.kept h hb hg
theorem Mp.ne_bk (h : Mp P w k b n D) {g : Nat} {t : TypeId} {cs : Array Value} (hc : Bk w g t cs) : b ≠ g := by
  rintro rfl
  obtain ⟨es, clock, h1, _⟩ := h
  unfold Bk at hc
  rw [h1] at hc
  cases hc
theorem Mp.run_look (h : Mp P w k b n D) {t e : TypeId} (K : Keyed P k) (ht : P.underlying t = some (.map k e)) {z : Value} (hz : (zeroValue e).run P w = .ok z w) {key : Value} {kl : Lit} (hkey : keyOf P k key = some kl) :
    (Instr.lookup t (.map (some b)) key false).run P w = .ok (valAt D kl z) w := by
  obtain ⟨v, ps, hrun, hv⟩ := World.ownsMap.lookup h K ht hz (zd := .held z) (zp := []) rfl hkey
  rw [hrun, valAt_of hv]
theorem Mp.run_look_ok (h : Mp P w k b n D) {t e : TypeId} (K : Keyed P k) (ht : P.underlying t = some (.map k e)) {z : Value} (hz : (zeroValue e).run P w = .ok z w) {key : Value} {kl : Lit} (hkey : keyOf P k key = some kl) :
    (Instr.lookup t (.map (some b)) key true).run P w = .ok (.tuple #[valAt D kl z, .bool (Maps.has D kl)]) w := by
  obtain ⟨v, ps, hrun, hv⟩ := World.ownsMap.look_ok h K ht hz (zd := .held z) (zp := []) rfl hkey
  rw [hrun, valAt_of hv]
end

section
variable {P : Program} {w : World} {ops : Array Oper} {rest : List Oper} {o : Oper} {a : Act} {Q : Exit → Act → World → Prop}
theorem wpl_look (hg : o.guard = none) (m x : Operand) (t : TypeId) (hop : o.op = Op.lookup t m x false)
    (k e : TypeId) (K : Keyed P k) (ht : P.underlying t = some (.map k e)) {z : Value} (hz : ∀ w, (zeroValue e).run P w = .ok z w) (b n : Nat) (D : DataW Value)
    (hm : a.eval m = .map (some b)) (hown : Mp P w k b n D) (key : Value) (kl : Lit) (hx : a.eval x = key) (hkey : keyOf P k key = some kl)
    (hK : wpList P ops Q rest (a.put o.dst (valAt D kl z)) w) : wpList P ops Q (o :: rest) a w := by
  refine wpList_plain hg fun K' hK' => ?_
  have hrun := hown.run_look K ht (hz w) hkey
  unfold Oper.wp
  simp [execOp, hop, hm, hx, hrun, Result.andThen]
  exact hK' _ _ hK
theorem wpl_look_ok (hg : o.guard = none) (m x : Operand) (t : TypeId) (hop : o.op = Op.lookup t m x true)
    (k e : TypeId) (K : Keyed P k) (ht : P.underlying t = some (.map k e)) {z : Value} (hz : ∀ w, (zeroValue e).run P w = .ok z w) (b n : Nat) (D : DataW Value)
    (hm : a.eval m = .map (some b)) (hown : Mp P w k b n D) (key : Value) (kl : Lit) (hx : a.eval x = key) (hkey : keyOf P k key = some kl)
    (hK : wpList P ops Q rest (a.put o.dst (.tuple #[valAt D kl z, .bool (Maps.has D kl)])) w) : wpList P ops Q (o :: rest) a w := by
  refine wpList_plain hg fun K' hK' => ?_
  have hrun := hown.run_look_ok K ht (hz w) hkey
  unfold Oper.wp
  simp [execOp, hop, hm, hx, hrun, Result.andThen]
  exact hK' _ _ hK
theorem wpl_store_map (hg : o.guard = none) (m x v : Operand) (t : TypeId) (hop : o.op = Op.mapUpdate t m x v)
    (k e : TypeId) (K : Keyed P k) (ht : P.underlying t = some (.map k e)) (b n : Nat) (D : DataW Value)
    (hm : a.eval m = .map (some b)) (hown : Mp P w k b n D) (hn : n < maxLen) (key val : Value) (kl : Lit) (hx : a.eval x = key) (hv : a.eval v = val) (hkey : keyOf P k key = some kl)
    (hK : ∀ w', Mp P w' k b (n + 1) (D.put kl (.held val)) → w.grownBy w' (some b) → w'.heap.size = w.heap.size → wpList P ops Q rest (a.put o.dst undef) w') :
    wpList P ops Q (o :: rest) a w := by
  refine wpList_plain hg fun K' hK' => ?_
  obtain ⟨w', hrun, r1, r2⟩ := World.ownsMap.store hown K ht hn hkey (val := val) (d := .held val) (ps := []) rfl
  have r3 := r2.grown
  have r4 : w'.heap.size = w.heap.size := by
    obtain ⟨es, clock, es', clock', hb, rfl⟩ := r2
    simp [ChangeMaps.setBlock]
  unfold Oper.wp
  simp [execOp, hop, hm, hx, hv, hrun, Result.andThen]
  exact hK' _ _ (hK w' r1 r3 r4)
end
section
variable {P : Program} {w : World} {k : TypeId} {b n : Nat} {D : DataW Value}
theorem Mp.mem_keys (h : Mp P w k b n D) (K : Keyed P k) (hk : P.underlying k = some .string) (x : List UInt8) : x ∈ strKeys D ↔ Maps.has D (.string x) = true := by
  obtain ⟨es, hD, hpw, _⟩ := World.ownsMap.entries h K
  obtain ⟨es', hD', hko⟩ := World.ownsMap.keysOf h
  obtain rfl : es = es' := by rw [hD] at hD'; simpa using hD'
  subst hD
  have hs : ∀ p ∈ es, ∃ x, p.1 = .string x := fun p hp => by obtain ⟨v, hv⟩ := hko p hp; obtain ⟨x, _, hx, _⟩ := Maps.keyOf_str hk hv; exact ⟨x, hx⟩
  rw [Maps.has_eq, List.any_eq_true]
  show x ∈ es.map (fun p => strOf p.1) ↔ _
  rw [List.mem_map]
  constructor
  · rintro ⟨p, hp', rfl⟩
    obtain ⟨a, ha⟩ := hs p hp'
    exact ⟨p, hp', by rw [ha]; simp [Lit.sameKey, strOf]⟩
  · rintro ⟨p, hp', he⟩
    obtain ⟨a, ha⟩ := hs p hp'
    rw [ha] at he
    exact ⟨p, hp', by rw [ha]; simpa [Lit.sameKey, strOf] using he⟩
theorem Mp.nodup_keys (h : Mp P w k b n D) (K : Keyed P k) (hk : P.underlying k = some .string) : (strKeys D).Nodup := by
  obtain ⟨es, hD, hpw, _⟩ := World.ownsMap.entries h K
  obtain ⟨es', hD', hko⟩ := World.ownsMap.keysOf h
  obtain rfl : es = es' := by rw [hD] at hD'; simpa using hD'
  subst hD
  show (es.map fun p => strOf p.1).Nodup
  refine List.pairwise_map.2 (hpw.imp_of_mem fun {p q} hp' hq' hne e => hne ?_)
  obtain ⟨v, hv⟩ := hko p hp'
  obtain ⟨a, _, ha, _⟩ := Maps.keyOf_str hk hv
  obtain ⟨v', hv'⟩ := hko q hq'
  obtain ⟨a', _, ha', _⟩ := Maps.keyOf_str hk hv'
  rw [ha, ha'] at e ⊢
  exact congrArg _ e
theorem Mp.len_keys (h : Mp P w k b n D) : (strKeys D).length = Maps.size D := by
  obtain ⟨es, rfl⟩ := h.isMap
  show (es.map fun p => strOf p.1).length = es.length
  simp
end
theorem below_map {B : Nat} {W w w' : World} {b : Nat} (h : Below B W w) (hg : w.grownBy w' (some b)) (hB : B ≤ w.heap.size) (hb : B ≤ b) : Below B W w' :=
  h.grown hg hB fun k hk => by cases hk; exact hb
section
variable {b f : Nat} {w w1 w2 : World}
end
theorem keyLit_string (s : List UInt8) : WideAt.IsKeyLit (.string s) := by simp [WideAt.IsKeyLit]
end Go.Proofs.Mem
end
section
namespace Go.Proofs.Ytkpklnalfomcbaa
open Go.RowKit Go.Proofs.Mem
set_option linter.unusedVariables false
set_option linter.unusedSimpArgs false
def kys (l : List Ob) : List (Int × ByteArray) := l.map fun x => (x.kind, x.name)
theorem mem_kys {l : List Ob} {x : Ob} (h : x ∈ l) : (x.kind, x.name) ∈ kys l := List.mem_map.2 ⟨x, h, rfl⟩
theorem kys_inj {ml : List Ob} (h : (kys ml).Nodup) {i j : Nat} (hi : i < ml.length) (hj : j < ml.length) (e : (ml[i].kind, ml[i].name) = (ml[j].kind, ml[j].name)) : i = j := by
  have h1 : (kys ml)[i]'(by simpa [kys] using hi) = (kys ml)[j]'(by simpa [kys] using hj) := by simpa [kys] using e
  have h2 := List.pairwise_iff_getElem.1 h
  rcases Nat.lt_trichotomy i j with hij | hij | hij
  · exact absurd h1 (h2 i j (by simpa [kys] using hi) (by simpa [kys] using hj) hij)
  · exact hij
  · exact absurd h1.symm (h2 j i (by simpa [kys] using hj) (by simpa [kys] using hi) hij)
def getL (l : List Lab) (k : ByteArray) : Option ByteArray := (l.find? fun x => decide (x.key = k)).map Lab.value
def plc (k : ByteArray) (o : Ob) : Option ByteArray := if o.kind = 2 then getL o.n.labels.l k else none
def isP (w : ByteArray) (o : Ob) : Bool := decide (o.kind = 1) && decide (o.p.owner = w) && (decide (o.p.phase = 1) || decide (o.p.phase = 2))
def atN (k : ByteArray) (l : List Ob) (n : ByteArray) : Option ByteArray := l.findSome? fun x => if x.name = n then plc k x else none
def cntS (k w : ByteArray) (l : List Ob) (p : ByteArray) : Nat := l.countP fun o => isP w o && decide (atN k l o.p.node = some p)
def inC (k : ByteArray) (l : List Ob) (p n : ByteArray) : Nat := l.countP fun x => decide (plc k x = some p) && decide (x.name = n)
def lawC (k w : ByteArray) (l : List Ob) (p : ByteArray) : Nat := ((l.filter (isP w)).map fun o => inC k l p o.p.node).sum
section
variable {k w p n : ByteArray} {l : List Ob} {o : Ob}
theorem plc_kind {q : ByteArray} (h : plc k o = some q) : o.kind = 2 := by
  unfold plc at h
  split at h
  · assumption
  · cases h
theorem inC_eq : ∀ {l : List Ob}, (kys l).Nodup → inC k l p n = if atN k l n = some p then 1 else 0
  | [], _ => by simp [inC, atN]
  | x :: l, hu => by
    have hu' : (kys l).Nodup ∧ (x.kind, x.name) ∉ kys l := by
      have h : ((x.kind, x.name) :: kys l).Nodup := hu
      exact ⟨(List.nodup_cons.1 h).2, (List.nodup_cons.1 h).1⟩
    have ih := inC_eq (l := l) hu'.1
    by_cases hx : x.name = n
    · cases hq : plc k x with
      | none =>
        have e1 : inC k (x :: l) p n = inC k l p n := by
          unfold inC
          rw [List.countP_cons]
          simp [hq]
        have e2 : atN k (x :: l) n = atN k l n := by
          unfold atN
          rw [List.findSome?_cons]
          simp [hx, hq]
        rw [e1, e2, ih]
      | some q =>
        have hk := plc_kind hq
        have h0 : inC k l p n = 0 := by
          unfold inC
          rw [List.countP_eq_zero]
          intro y hy h
          simp only [Bool.and_eq_true, decide_eq_true_eq] at h
          have hky := plc_kind h.1
          refine hu'.2 ?_
          have := mem_kys hy
          rw [hky, h.2] at this
          rw [hk, hx]
          exact this
        have e1 : inC k (x :: l) p n = inC k l p n + if q = p then 1 else 0 := by
          unfold inC
          rw [List.countP_cons]
          simp [hx, hq]
        have e2 : atN k (x :: l) n = some q := by
          unfold atN
          rw [List.findSome?_cons]
          simp [hx, hq]
        rw [e1, e2, h0]
        simp
    · have e1 : inC k (x :: l) p n = inC k l p n := by
        unfold inC
        rw [List.countP_cons]
        simp [hx]
      have e2 : atN k (x :: l) n = atN k l n := by
        unfold atN
        rw [List.findSome?_cons]
        simp [hx]
      rw [e1, e2, ih]
theorem sum_if {α : Type} (f g : α → Bool) : ∀ l : List α, ((l.filter f).map fun o => if g o then 1 else 0).sum = l.countP fun o => f o && g o
  | [] => rfl
  | x :: l => by
    have ih := sum_if f g l
    rw [List.countP_cons]
    cases hf : f x with
    | false =>
      rw [List.filter_cons_of_neg (by simp [hf]), ih]
      simp
    | true =>
      rw [List.filter_cons_of_pos hf, List.map_cons, List.sum_cons, ih]
      cases hg : g x <;> simp <;> omega
theorem lawC_eq (hu : (kys l).Nodup) : lawC k w l p = cntS k w l p := by
  unfold lawC cntS
  rw [← sum_if (isP w) (fun o => decide (atN k l o.p.node = some p))]
  congr 1
  refine List.map_congr_left fun o _ => ?_
  rw [inC_eq hu]
  simp
end
def PL (k : ByteArray) (l : List Ob) : List ByteArray := l.filterMap (plc k)
def lowS (k w : ByteArray) (l : List Ob) : Nat := (((PL k l).map (cntS k w l)).min?).getD 0
def highS (k w : ByteArray) (l : List Ob) : Nat := (((PL k l).map (cntS k w l)).max?).getD 0
section
variable {k w p n : ByteArray} {l : List Ob} {o x : Ob} {i : Nat}
theorem atN_app (l r : List Ob) : atN k (l ++ r) n = (atN k l n).or (atN k r n) := by
  unfold atN
  rw [List.findSome?_append]
theorem atN_next (hu : (kys l).Nodup) (hx : l[i]? = some x) : atN k (l.take (i + 1)) n = if x.name = n ∧ (plc k x).isSome then plc k x else atN k (l.take i) n := by
  rw [List.take_add_one, hx, atN_app]
  have e : atN k [x] n = if x.name = n then plc k x else none := by
    unfold atN
    simp only [List.findSome?_cons, List.findSome?_nil]
    cases h : (if x.name = n then plc k x else none) <;> simp
  show (atN k (l.take i) n).or (atN k [x] n) = _
  rw [e]
  by_cases h1 : x.name = n
  · cases h2 : plc k x with
    | none => simp [h1]
    | some q =>
      have h3 : atN k (l.take i) n = none := by
        unfold atN
        rw [List.findSome?_eq_none_iff]
        intro y hy
        by_cases hyn : y.name = n
        · rw [if_pos hyn]
          cases hyp : plc k y with
          | none => rfl
          | some r =>
            exfalso
            obtain ⟨j, hj, rfl⟩ := List.getElem_of_mem hy
            rw [List.length_take] at hj
            obtain ⟨hi, hxe⟩ := List.getElem?_eq_some_iff.1 hx
            have hjl : j < l.length := by omega
            have hk1 := plc_kind hyp
            have hk2 := plc_kind h2
            rw [List.getElem_take] at hyn hk1
            have := kys_inj hu hjl hi (by rw [hk1, hyn, hxe, hk2, h1])
            omega
        · rw [if_neg hyn]
      simp [h1, h3]
  · simp [h1]
def hasT (k : ByteArray) (l : List Ob) (i : Nat) (p : ByteArray) : Bool := (l.take i).any fun x => decide (plc k x = some p)
theorem hasT_zero : hasT k l 0 p = false := by unfold hasT; simp
theorem hasT_next (hx : l[i]? = some x) : hasT k l (i + 1) p = (hasT k l i p || decide (plc k x = some p)) := by
  unfold hasT
  rw [List.take_add_one, hx, List.any_append]
  simp
theorem hasT_all : hasT k l l.length p = true ↔ p ∈ PL k l := by
  unfold hasT PL
  rw [List.take_length, List.any_eq_true, List.mem_filterMap]
  simp
theorem atN_place (h : atN k l n = some p) : p ∈ PL k l := by
  unfold atN at h
  obtain ⟨x, hx, h⟩ := List.exists_of_findSome?_eq_some h
  unfold PL
  rw [List.mem_filterMap]
  refine ⟨x, hx, ?_⟩
  split at h
  · exact h
  · cases h
end
end Go.Proofs.Ytkpklnalfomcbaa
end
section
namespace Go.Proofs.Ytkpklnalfomcbaa
open Go.RowKit Go.Proofs.Mem
set_option linter.unusedVariables false
set_option linter.unusedSimpArgs false
theorem min_mem {l l' : List Nat} (h : ∀ x, x ∈ l ↔ x ∈ l') : l.min?.getD 0 = l'.min?.getD 0 := by
  have e : l.min? = l'.min? := by
    cases hm : l'.min? with
    | none =>
      rw [List.min?_eq_none_iff] at hm ⊢
      subst hm
      cases l with
      | nil => rfl
      | cons a r => exact absurd ((h a).1 (List.mem_cons_self ..)) (by simp)
    | some a =>
      rw [List.min?_eq_some_iff] at hm ⊢
      exact ⟨(h a).2 hm.1, fun b hb => hm.2 b ((h b).1 hb)⟩
  rw [e]
theorem max_mem {l l' : List Nat} (h : ∀ x, x ∈ l ↔ x ∈ l') : l.max?.getD 0 = l'.max?.getD 0 := by
  have e : l.max? = l'.max? := by
    cases hm : l'.max? with
    | none =>
      rw [List.max?_eq_none_iff] at hm ⊢
      subst hm
      cases l with
      | nil => rfl
      | cons a r => exact absurd ((h a).1 (List.mem_cons_self ..)) (by simp)
    | some a =>
      rw [List.max?_eq_some_iff] at hm ⊢
      exact ⟨(h a).2 hm.1, fun b hb => hm.2 b ((h b).1 hb)⟩
  rw [e]
theorem min_app (l : List Nat) (n : Nat) : (l ++ [n]).min?.getD 0 = if l = [] then n else if n < l.min?.getD 0 then n else l.min?.getD 0 := by
  by_cases hl : l = []
  · subst hl
    rfl
  · rw [if_neg hl]
    obtain ⟨a, ha⟩ : ∃ a, l.min? = some a := by
      cases h : l.min? with
      | none => exact absurd (List.min?_eq_none_iff.1 h) hl
      | some a => exact ⟨a, rfl⟩
    have h1 := List.min?_eq_some_iff.1 ha
    have e : (l ++ [n]).min? = some (if n < a then n else a) := by
      rw [List.min?_eq_some_iff]
      refine ⟨?_, fun b hb => ?_⟩
      · rw [List.mem_append, List.mem_singleton]
        split
        · exact .inr rfl
        · exact .inl h1.1
      · rw [List.mem_append, List.mem_singleton] at hb
        rcases hb with hb | hb
        · have := h1.2 b hb
          split <;> omega
        · split <;> omega
    rw [e, ha]
    rfl
theorem max_app (l : List Nat) (n : Nat) : (l ++ [n]).max?.getD 0 = if l = [] then n else if n > l.max?.getD 0 then n else l.max?.getD 0 := by
  by_cases hl : l = []
  · subst hl
    rfl
  · rw [if_neg hl]
    obtain ⟨a, ha⟩ : ∃ a, l.max? = some a := by
      cases h : l.max? with
      | none => exact absurd (List.max?_eq_none_iff.1 h) hl
      | some a => exact ⟨a, rfl⟩
    have h1 := List.max?_eq_some_iff.1 ha
    have e : (l ++ [n]).max? = some (if n > a then n else a) := by
      rw [List.max?_eq_some_iff]
      refine ⟨?_, fun b hb => ?_⟩
      · rw [List.mem_append, List.mem_singleton]
        split
        · exact .inr rfl
        · exact .inl h1.1
      · rw [List.mem_append, List.mem_singleton] at hb
        rcases hb with hb | hb
        · have := h1.2 b hb
          split <;> omega
        · split <;> omega
    rw [e, ha]
    rfl
section
variable {k w p : ByteArray} {l : List Ob} {x : Ob} {i : Nat}
def VL (k w : ByteArray) (l : List Ob) (i : Nat) : List Nat := (PL k (l.take i)).map (cntS k w l)
theorem VL_zero : VL k w l 0 = [] := by unfold VL PL; simp
theorem VL_next (hx : l[i]? = some x) : VL k w l (i + 1) = match plc k x with | none => VL k w l i | some p => VL k w l i ++ [cntS k w l p] := by
  unfold VL PL
  rw [List.take_add_one, hx, List.filterMap_append, List.map_append]
  cases h : plc k x <;> simp [h]
theorem VL_low : (VL k w l l.length).min?.getD 0 = lowS k w l := by unfold VL lowS; rw [List.take_length]
theorem VL_high : (VL k w l l.length).max?.getD 0 = highS k w l := by unfold VL highS; rw [List.take_length]
theorem VL_met : VL k w l l.length = [] ↔ PL k l = [] := by
  unfold VL
  rw [List.take_length]
  simp
theorem cntS_le : cntS k w l p ≤ l.length := List.countP_le_length
theorem low_le : lowS k w l ≤ l.length := by
  unfold lowS
  cases h : ((PL k l).map (cntS k w l)).min? with
  | none => exact Nat.zero_le _
  | some a =>
    obtain ⟨q, _, rfl⟩ := List.mem_map.1 (List.min?_eq_some_iff.1 h).1
    exact cntS_le
theorem high_le : highS k w l ≤ l.length := by
  unfold highS
  cases h : ((PL k l).map (cntS k w l)).max? with
  | none => exact Nat.zero_le _
  | some a =>
    obtain ⟨q, _, rfl⟩ := List.mem_map.1 (List.max?_eq_some_iff.1 h).1
    exact cntS_le
end
end Go.Proofs.Ytkpklnalfomcbaa
end
section
namespace Go.Proofs.Ytkpklnalfomcbaa
open Go.RowKit Go.Proofs.Mem
set_option linter.unusedVariables false
set_option linter.unusedSimpArgs false
def CntM (f : ByteArray → Nat) (h : ByteArray → Bool) (D : DataW Value) : Prop := ∀ p : List UInt8, Maps.has D (.string p) = h ⟨p.toArray⟩ ∧ valAt D (.string p) (.int .i64 0) = .int .i64 (f ⟨p.toArray⟩)
def AtM (g : ByteArray → Option ByteArray) (D : DataW Value) : Prop := ∀ n : List UInt8, Maps.has D (.string n) = (g ⟨n.toArray⟩).isSome ∧ valAt D (.string n) (.string ⟨#[]⟩) = .string ((g ⟨n.toArray⟩).getD ⟨#[]⟩)
theorem cntM_nil : CntM (fun _ => 0) (fun _ => false) (.map []) := fun p => ⟨rfl, rfl⟩
theorem atM_nil : AtM (fun _ => none) (.map []) := fun p => ⟨rfl, rfl⟩
theorem ba_inj {a b : List UInt8} (h : (⟨a.toArray⟩ : ByteArray) = ⟨b.toArray⟩) : a = b := by
  have : (⟨a.toArray⟩ : ByteArray).data.toList = (⟨b.toArray⟩ : ByteArray).data.toList := by rw [h]
  exact this
theorem cntM_put {f : ByteArray → Nat} {h : ByteArray → Bool} {D : DataW Value} (hD : Maps.IsMap D) (H : CntM f h D) (p : List UInt8) (v : Nat) :
    CntM (fun q => if q = ⟨p.toArray⟩ then v else f q) (fun q => h q || decide (q = ⟨p.toArray⟩)) (D.put (.string p) (.held (.int .i64 v))) := fun q => by
  by_cases e : q = p
  · subst e
    refine ⟨?_, ?_⟩
    · rw [Maps.has_put_same hD (keyLit_string _)]
      simp
    · rw [valAt_put_same hD (keyLit_string _)]
      simp
  · have hne : (.string q : Lit) ≠ .string p := fun h => by injection h with h; exact e h
    have hnb : ¬ (⟨q.toArray⟩ : ByteArray) = ⟨p.toArray⟩ := fun h => e (ba_inj h)
    refine ⟨?_, ?_⟩
    · rw [Maps.has_put_other hne, (H q).1]
      simp [hnb]
    · rw [valAt_put_other hne, (H q).2]
      simp [hnb]
theorem atM_put {g : ByteArray → Option ByteArray} {D : DataW Value} (hD : Maps.IsMap D) (H : AtM g D) (n : List UInt8) (v : ByteArray) :
    AtM (fun q => if q = ⟨n.toArray⟩ then some v else g q) (D.put (.string n) (.held (.string v))) := fun q => by
  by_cases e : q = n
  · subst e
    refine ⟨?_, ?_⟩
    · rw [Maps.has_put_same hD (keyLit_string _)]
      simp
    · rw [valAt_put_same hD (keyLit_string _)]
      simp
  · have hne : (.string q : Lit) ≠ .string n := fun h => by injection h with h; exact e h
    have hnb : ¬ (⟨q.toArray⟩ : ByteArray) = ⟨n.toArray⟩ := fun h => e (ba_inj h)
    refine ⟨?_, ?_⟩
    · rw [Maps.has_put_other hne, (H q).1]
      simp [hnb]
    · rw [valAt_put_other hne, (H q).2]
      simp [hnb]
theorem cntM_congr {f f' : ByteArray → Nat} {h h' : ByteArray → Bool} {D : DataW Value} (H : CntM f h D) (h1 : ∀ q, f q = f' q) (h2 : ∀ q, h q = h' q) : CntM f' h' D := fun q => by rw [← h1, ← h2]; exact H q
theorem atM_congr {g g' : ByteArray → Option ByteArray} {D : DataW Value} (H : AtM g D) (h1 : ∀ q, g q = g' q) : AtM g' D := fun q => by rw [← h1]; exact H q
section
variable {k w p n : ByteArray} {l : List Ob} {x : Ob} {i : Nat}
theorem at_step (hu : (kys l).Nodup) (hx : l[i]? = some x) {q : ByteArray} (hq : plc k x = some q) (m : ByteArray) : (if m = x.name then some q else atN k (l.take i) m) = atN k (l.take (i + 1)) m := by
  rw [atN_next hu hx, hq]
  by_cases e : m = x.name
  · subst e
    simp
  · have e' : ¬ x.name = m := fun h => e h.symm
    simp [e, e']
theorem at_stay (hu : (kys l).Nodup) (hx : l[i]? = some x) (hq : plc k x = none) (m : ByteArray) : atN k (l.take i) m = atN k (l.take (i + 1)) m := by
  rw [atN_next hu hx, hq]
  simp
end
end Go.Proofs.Ytkpklnalfomcbaa
end
section
namespace Go.Proofs.Ytkpklnalfomcbaa
open Go.RowKit Go.Proofs.Mem
set_option linter.unusedVariables false
set_option linter.unusedSimpArgs false
theorem sz_lab : (Try.prog.info? 96).map (·.size) = some 2 := by kernel_rfl
set_option maxRecDepth 100000 in
theorem index_lab (r : Row Lab) (cap : List Value) (p : Lab → Bool) (w : World) {bytes : Nat} {q : Lab → Prop} (hr : r.Ok w 2 bytes Lab.cells q) (hl : r.l.length ≤ 140737488355328)
    (hcall : ∀ k (h : k < r.l.length) w', Below w.heap.size w w' → Calls Try.prog 59 (#[.agg (Lab.cells r.l[k]).toArray] ++ cap.toArray) w' fun e w'' => e = .returned (.bool (p r.l[k])) ∧ Below w'.heap.size w' w'') :
    Calls Try.prog 58 #[r.v, .func (.func 59) #[] cap.toArray] w fun e w' => e = .returned (idxI r.l p) ∧ Below w.heap.size w w' := by
  obtain ⟨v, l⟩ := r
  obtain ⟨hS, hrch, hwf⟩ := id hr
  obtain ⟨A, c, e, _⟩ := id hS
  simp only at e hl hcall
  subst e
  have hL : LoopSpec (idxHyp Try.prog aggR w (l.findIdx p : Int) (l.any p)) (fun _ => [8, 0, 1, 6, 7]) (0, .loop (loopBody Try.f58 0), [some (.v (.int .i64 0)), some (.v (.slice A l.length c)), some (.v (.func (.func 59) #[] cap.toArray)), some (.v (.slice A l.length c)), some (.v (.int .i64 (l.length : Int)))], []) := by
    refine px_loop (H := idxHyp Try.prog aggR w (l.findIdx p : Int) (l.any p)) (K := .i64) aggR_ok (fun _ _ _ _ h => h) (by kernel_rfl) rfl (fun _ => [8, 0, 1, 6, 7]) (kx := []) (kr := [4]) rfl l.length 0 (fun k => ∀ i (h : i < l.length), i < k → p l[i] = false) (fun i h hi => absurd hi (Nat.not_lt_zero _)) (fun _ => [.v (.slice A l.length c), .v (.func (.func 59) #[] cap.toArray), .v (.slice A l.length c), .v (.int .i64 (l.length : Int))]) (fun _ => [])
      (fun k => if h : k < l.length then some (⟨false, 96, Lab.cells l[k]⟩, match A with | some ad => (ad.block, ad.off + k * 2) | none => (0, 0)) else none)
      (fun k => if h : k < l.length then callTab [(14, .p 0 0), (16, .v (.bool (p l[k])))] else callTab [])
      (fun _ => litIn []) (fun k s => match Nat.beq s 9 with | true => some (decide (k < l.length)) | false => none)
      (fun _ _ => rfl) (fun _ _ => rfl) ?_ (Nat.le_refl _) ?_
    · intro k x hx
      split at hx
      · rename_i hk
        obtain ⟨b, o, c', e, hb, hrg⟩ := row_range (r := ⟨.slice A l.length c, l⟩) (s := 2) (by decide) (fun _ => rfl) hr (Nat.lt_of_le_of_lt (Nat.zero_le _) hk)
        simp only [Value.slice.injEq] at e
        obtain ⟨rfl, -, -⟩ := e
        simp only [Option.some.injEq] at hx
        subst hx
        exact ⟨rfl, hb, elem_range (f := Lab.cells) (s := 2) (fun _ => rfl) hrg k hk⟩
      · cases hx
    · intro k hk hJ
      by_cases hkn : k < l.length
      · obtain ⟨b, o, c', e, hb, hrg⟩ := row_range (r := ⟨.slice A l.length c, l⟩) (s := 2) (by decide) (fun _ => rfl) hr (Nat.lt_of_le_of_lt (Nat.zero_le _) hkn)
        simp only [Value.slice.injEq] at e
        obtain ⟨rfl, -, -⟩ := e
        rw [dif_pos hkn, dif_pos hkn, decide_eq_true hkn]
        refine ⟨.br (p l[k]) (.ret [some (.v (.int .i64 (k : Int)))] []) (.norm [some (.v (.int .i64 (IntKind.i64.wrap ((k : Int) + 1)))), some (.v (.slice (some ⟨b, o, none⟩) l.length c)), some (.v (.func (.func 59) #[] cap.toArray)), some (.v (.slice (some ⟨b, o, none⟩) l.length c)), some (.v (.int .i64 (l.length : Int)))] []),
          ⟨[.op (fun ρ => do pure (.value (← Instr.indexAt 39 (.slice (some ⟨b, o, none⟩) l.length c) (.int .i64 (k : Int))))) (.p 0 0), .call 59 ([.v (.agg (Lab.cells l[k]).toArray)] ++ cap.map .v) (.v (.bool (p l[k])))], [], [(decide ((k : Int) < (l.length : Int)), true)]⟩, by kernel_rfl, ⟨?_, ?_, ?_⟩, ?_⟩
        · refine paid2_cons (paid_index (s := 2) (by kernel_rfl) sz_lab hkn fun ρ hX => ?_) (paid2_cons (fun ρ _ w1 hb => ?_) paid2_nil)
          · rw [hX.2 _ rfl]
            exact ⟨rfl, rfl⟩
          · rw [den_cap]
            exact hcall k hkn w1 hb
        · exact fun q hq => by cases hq
        · exact fun p hp => by rw [List.mem_singleton.1 hp]; exact decide_eq_true (Int.ofNat_lt.2 hkn)
        · refine ⟨fun hb => ⟨[.v (.int .i64 (k : Int))], rfl, rfl, fun Q hQ => ?_⟩, fun hb => ⟨hkn, ?_, ?_, rfl⟩⟩
          · have := hQ.1 (any_at k hkn hb)
            rw [find_at k hkn hb hJ] at this
            exact this
          · refine fun i h hi => ?_
            rcases Nat.lt_or_eq_of_le (Nat.le_of_lt_succ hi) with h1 | h1
            · exact hJ i h h1
            · subst h1; exact hb
          · rw [wrap_add k (by omega)]
            rfl
      · have : k = l.length := by omega
        subst this
        rw [dif_neg hkn, dif_neg hkn, decide_eq_false hkn]
        refine ⟨.exit [] [], ⟨[], [], [(decide ((l.length : Int) < (l.length : Int)), false)]⟩, by kernel_rfl, ⟨fun x hx => (by cases hx), fun x hx => (by cases hx), fun p hp => by rw [List.mem_singleton.1 hp]; simp⟩, [], rfl, rfl, fun Q hQ => ?_⟩
        exact hQ.2 (any_none hJ)
  refine px_calls (f := 58) (fn := Try.f58) (args := [.v (.slice A l.length c), .v (.func (.func 59) #[] cap.toArray)]) (B := []) (ρ0 := fun _ => (0, 0)) (H := idxHyp Try.prog aggR w (l.findIdx p : Int) (l.any p)) aggR_ok (fun _ _ _ _ h => h) (by kernel_rfl) Try.func58 rfl (by kernel_rfl) (by show (2 : Nat) ≤ 19; decide) rfl (by simp [SV.lt]) trivial (Nat.le_refl _) (fun i b hb => by simp at hb) (fun _ => [8, 0, 1, 6, 7])
    ⟨[], [(0, .loop (loopBody Try.f58 0), [some (.v (.int .i64 0)), some (.v (.slice A l.length c)), some (.v (.func (.func 59) #[] cap.toArray)), some (.v (.slice A l.length c)), some (.v (.int .i64 (l.length : Int)))], [])], []⟩ [.v (idxI l p)] (by kernel_rfl) ⟨fun x hx => (by cases hx), fun q hq => by rw [List.mem_singleton.1 hq]; exact hL, fun p hp => (by cases hp)⟩ (fun ρ w' _ hb => ⟨rfl, hb⟩)
theorem tl_neS {a b : ByteArray} (h : a ≠ b) : (a.toList == b.toList) = false := by
  rw [ByteArray.toList_eq, ByteArray.toList_eq, beq_eq_false_iff_ne]
  exact fun e => h (by
    have h2 : a.data = b.data := Array.toList_inj.1 e
    cases a
    cases b
    simp_all)
theorem get1_any (x : Lab) (key : ByteArray) (g : Nat) (w : World) (hk : w.cell? ⟨g, 0, none⟩ = some (.string key)) : Calls Try.prog 59 #[.agg x.cells.toArray, .pointer (some ⟨g, 0, none⟩)] w fun e w' => e = .returned (.bool (decide (x.key = key))) ∧ Below w.heap.size w w' := by
  obtain ⟨kx, vx⟩ := x
  simp only [Lab.cells]
  have hB := below_al w (.cells #[.string kx, .string vx] 96)
  have hk2 := keep_cell hB hk
  by_cases h : kx = key
  · subst h
    have hd : decide (kx = kx) = true := by simp
    rw [hd]
    go_enter Try.func59, Try.ntmps59
    go_wp2_with fail
    go_ret
    exact ⟨by simp, hB⟩
  · have hd : decide (kx = key) = false := by simp [h]
    rw [hd]
    have hn := tl_neS h
    go_enter Try.func59, Try.ntmps59
    go_wp2_with fail
    go_ret
    exact ⟨rfl, hB⟩
theorem getL_idx (l : List Lab) (key : ByteArray) : getL l key = if h : (l.findIdx fun x => decide (x.key = key)) < l.length then some (l[l.findIdx fun x => decide (x.key = key)]'h).value else none := by
  unfold getL
  rw [List.find?_eq_getElem?_findIdx]
  by_cases h : (l.findIdx fun x => decide (x.key = key)) < l.length
  · rw [dif_pos h, List.getElem?_eq_getElem h]
    rfl
  · rw [dif_neg h, List.getElem?_eq_none (by omega)]
    rfl
end Go.Proofs.Ytkpklnalfomcbaa
end
section
namespace Go.Proofs.Ytkpklnalfomcbaa
open Go.RowKit Go.Proofs.Mem
set_option linter.unusedVariables false
set_option linter.unusedSimpArgs false
theorem lget_any (r : Row Lab) (key : ByteArray) (w : World) (hr : LabsOk w r) : Calls Try.prog 47 #[r.v, .string key] w fun e w' => e = .returned (.tuple #[.string ((getL r.l key).getD ⟨#[]⟩), .bool (getL r.l key).isSome]) ∧ Below w.heap.size w w' := by
  have hB := below_al w (.cells #[.string key] 9)
  have kb := Bk.new w 9 #[.string key]
  obtain ⟨W0, hW0⟩ : ∃ W0, W0 = w.alloc (.cells #[.string key] 9) := ⟨_, rfl⟩
  rw [← hW0] at hB kb
  have hl : r.l.length ≤ 140737488355328 := by
    have h := hr.2.1
    unfold reachBytes at h
    omega
  have CI := Lib.hid (index_lab r [.pointer (some ⟨w.heap.size, 0, none⟩)] (fun x => decide (x.key = key)) W0 (hr.below hB) hl (fun k hk w' hb => get1_any r.l[k] key w.heap.size w' (keep_cell hb (kb.cell 0))))
  have HW := Lib.hid hW0.symm
  have HB := Lib.hid (And.intro hB hr)
  rw [getL_idx]
  obtain ⟨v, l⟩ := r
  obtain ⟨A, c, e, _⟩ := id hr.1
  simp only at e CI ⊢
  subst e
  clear hB kb hW0 hr hl
  by_cases h : (l.findIdx fun x => decide (x.key = key)) < l.length
  · have hany : l.any (fun x => decide (x.key = key)) = true := List.any_eq_true.2 ⟨_, List.getElem_mem h, List.findIdx_getElem (w := h)⟩
    rw [dif_pos h]
    unfold idxI at CI
    rw [hany] at CI
    simp only [pickV, if_true] at CI
    obtain ⟨x, hx⟩ : ∃ x, l[l.findIdx fun x => decide (x.key = key)]? = some x := ⟨_, List.getElem?_eq_getElem h⟩
    obtain ⟨_, hx2⟩ := List.getElem?_eq_some_iff.1 hx
    rw [hx2]
    obtain ⟨i, hi⟩ : ∃ i, i = l.findIdx fun x => decide (x.key = key) := ⟨_, rfl⟩
    rw [← hi] at CI hx
    have HX := Lib.hid hx
    clear hx2 hi hx h
    go_enter Try.func47, Try.ntmps47
    go_wp2_with fail
    rw [HW.out]
    refine CI.out.mono ?_
    rintro e w1 ⟨rfl, b1⟩
    have H1 := Lib.hid (below_tr HB.out.1 b1)
    obtain ⟨h, hv2⟩ := List.getElem?_eq_some_iff.1 HX.out
    obtain ⟨b, o, rfl, hb, hadd, hcell⟩ := Sl.row' (s := 2) (f := Lab.cells) (fun _ => rfl) (by omega) (HB.out.2.1.below H1.out) i h
    have r1 : w1.cell? ⟨b, o + i * 2 + 1, none⟩ = some (.string x.value) := by rw [← hv2]; exact hcell 1 _ rfl
    have hi0 : ¬ (i : Int) < 0 := by omega
    clear hcell b1 hv2
    go_wp2_with fail
    go_ret2
    exact ⟨rfl, H1.out⟩
  · have hany : l.any (fun x => decide (x.key = key)) = false := by
      rw [List.any_eq_false]
      intro x hx hp
      exact h (List.findIdx_lt_length_of_exists ⟨x, hx, hp⟩)
    rw [dif_neg h]
    unfold idxI at CI
    rw [hany] at CI
    simp only [pickV, Bool.false_eq_true, if_false] at CI
    go_enter Try.func47, Try.ntmps47
    go_wp2_with fail
    rw [HW.out]
    refine CI.out.mono ?_
    rintro e w1 ⟨rfl, b1⟩
    have H1 := Lib.hid (below_tr HB.out.1 b1)
    clear b1
    go_wp2_with fail
    go_ret2
    exact ⟨rfl, H1.out⟩
end Go.Proofs.Ytkpklnalfomcbaa
end
section
namespace Go.Proofs.Ytkpklnalfomcbaa
open Go.RowKit Go.Proofs.Mem
set_option linter.unusedVariables false
set_option linter.unusedSimpArgs false
set_option maxHeartbeats 2000000 in
set_option maxRecDepth 100000 in
theorem splace_any (key : ByteArray) (skew : Int) (o : Ob) (w : World) (ho : o.Ok w) : Calls Try.prog 24 #[.agg #[.string key, .int .i64 skew], .agg o.cells.toArray] w fun e w' => e = .returned (.tuple #[.string ((plc key o).getD ⟨#[]⟩), .bool (plc key o).isSome]) ∧ Below w.heap.size w w' := by
  obtain ⟨L, hL⟩ : ∃ L, L = o.cells.toArray := ⟨_, rfl⟩
  have hB1 := below_al w (.cells #[.string key, .int .i64 skew] 23)
  have k1 := Bk.new w 23 #[.string key, .int .i64 skew]
  obtain ⟨W1, hW1⟩ : ∃ W1, W1 = w.alloc (.cells #[.string key, .int .i64 skew] 23) := ⟨_, rfl⟩
  rw [← hW1] at hB1 k1
  have hB2 := below_al W1 (.cells L 57)
  have k2 := Bk.new W1 57 L
  have k12 := k1.below' hB2
  have c0 : (W1.alloc (.cells L 57)).cell? ⟨W1.heap.size, 0, none⟩ = some (.int .i64 o.kind) := by
    rw [hL] at k2 ⊢
    exact k2.cell 0
  have c23 : (W1.alloc (.cells L 57)).cell? ⟨W1.heap.size, 23, none⟩ = some o.n.labels.v := by
    rw [hL] at k2 ⊢
    exact k2.cell 23
  obtain ⟨W2, hW2⟩ : ∃ W2, W2 = W1.alloc (.cells L 57) := ⟨_, rfl⟩
  have b12 := below_tr hB1 hB2
  rw [← hW2] at k12 b12
  have q0 := k12.cell 0
  have CG := Lib.hid (lget_any o.n.labels key W2 (ho.n.labels.below b12))
  have H2 := Lib.hid (And.intro hW1.symm (And.intro hW2.symm b12))
  rw [hW2] at q0
  rw [hW1] at c0 c23 q0
  rw [← hL]
  clear hB1 hB2 k1 k2 k12 b12 hW2 hW1 hL ho
  rw [World.size_alloc] at c0 c23
  cases hk : o.kind == 2 with
  | false =>
    have hp : plc key o = none := by
      unfold plc
      rw [if_neg (by simpa using hk)]
    have hk2 : (o.kind != 2) = true := by simp [bne, hk]
    rw [hp]
    clear hp
    go_enter Try.func24, Try.ntmps24
    go_wp2_with fail
    go_ret2
    rw [H2.out.1, H2.out.2.1]
    exact ⟨rfl, H2.out.2.2⟩
  | true =>
    have hp : plc key o = getL o.n.labels.l key := by
      unfold plc
      rw [if_pos (by simpa using hk)]
    have hk2 : (o.kind != 2) = false := by simp [bne, hk]
    rw [hp]
    clear hp
    obtain ⟨gl, hgl⟩ : ∃ g, g = getL o.n.labels.l key := ⟨_, rfl⟩
    rw [← hgl] at CG ⊢
    have HGL := Lib.hid hgl
    clear hgl
    go_enter Try.func24, Try.ntmps24
    go_wp2_with fail
    rw [H2.out.1, H2.out.2.1]
    refine CG.out.mono ?_
    rintro e W3 ⟨rfl, b3⟩
    have H3 := Lib.hid (below_tr H2.out.2.2 b3)
    clear b3
    go_wp2_with fail
    go_ret2
    exact ⟨rfl, H3.out⟩
end Go.Proofs.Ytkpklnalfomcbaa
end
section
namespace Go.Proofs.Ytkpklnalfomcbaa
open Go.RowKit Go.Proofs.Mem
set_option linter.unusedVariables false
set_option linter.unusedSimpArgs false
theorem getL_cons (x : Lab) (l : List Lab) (key : ByteArray) : getL (x :: l) key = if x.key = key then some x.value else getL l key := by
  unfold getL
  by_cases h : x.key = key
  · simp [h]
  · simp [h]
theorem rget_any (r : Row Lab) (key : ByteArray) (w : World) (hr : LabsOk w r) : Calls Try.prog 32 #[r.v, .string key] w fun e w' => e = .returned (.tuple #[.string ((getL r.l key).getD ⟨#[]⟩), .bool (getL r.l key).isSome]) ∧ Below w.heap.size w w' := by
  obtain ⟨v, l⟩ := r
  obtain ⟨A, c, e, _⟩ := id hr.1
  simp only at e ⊢
  subst e
  have HB := Lib.hid hr
  have hl : l.length ≤ 140737488355328 := by
    have h := hr.2.1
    unfold reachBytes at h
    simp only at h
    omega
  clear hr
  go_enter Try.func32, Try.ntmps32
  go_wp2_with fail
  go_loopw [10] (fun vi W => ∃ j : Nat, j ≤ l.length ∧ vi = .int .i64 j ∧ Hid (getL l key = getL (l.drop j) key ∧ Below w.heap.size w W)) (fun vi _ => l.length - (intOf vi).toNat)
  case atStart => exact ⟨0, Nat.zero_le _, rfl, Lib.hid ⟨rfl, Below.refl _ _⟩⟩
  case round =>
    obtain ⟨j, hj, rfl, hJ⟩ := hrel
    by_cases hlt : j < l.length
    · obtain ⟨b, o, rfl, hb, hadd, hcell⟩ := Sl.row' (s := 2) (f := Lab.cells) (fun _ => rfl) (by omega) (HB.out.1.below hJ.out.2) j hlt
      obtain ⟨x, hx⟩ : ∃ x, x = l[j] := ⟨_, rfl⟩
      rw [← hx] at hcell
      have r0 : wr.cell? ⟨b, o + j * 2, none⟩ = some (.string x.key) := hcell 0 _ rfl
      have r1 : wr.cell? ⟨b, o + j * 2 + 1, none⟩ = some (.string x.value) := hcell 1 _ rfl
      have hd : getL l key = if x.key = key then some x.value else getL (l.drop (j + 1)) key := by
        rw [hJ.out.1, List.drop_eq_getElem_cons hlt, getL_cons, ← hx]
      have hBn := below_tr hJ.out.2 (below_al wr (.cells #[.string x.key, .string x.value] 96))
      have HD := Lib.hid (And.intro hd hBn)
      clear hcell hx hJ hd hBn
      by_cases hk : x.key = key
      · subst hk
        have hk2 : getL l x.key = some x.value := by rw [HD.out.1, if_pos rfl]
        have HK2 := Lib.hid hk2
        clear hk2
        go_wp2_with fail
        go_ret2
        exact ⟨by rw [HK2.out]; rfl, HD.out.2⟩
      · have hn := tl_neS hk
        have HE := Lib.hid (And.intro (by rw [HD.out.1, if_neg hk] : getL l key = getL (l.drop (j + 1)) key) HD.out.2)
        clear hk
        go_wp2_with fail
        exact ⟨⟨j + 1, by omega, by go_num, HE⟩, by simp [intOf]; omega⟩
    · have hjl : j = l.length := by omega
      subst hjl
      have hnone : getL l key = none := by
        rw [hJ.out.1, List.drop_length]
        rfl
      have HN := Lib.hid hnone
      have HE := Lib.hid hJ.out.2
      clear hJ hnone
      go_wp2_with fail
      go_ret2
      exact ⟨by rw [HN.out]; rfl, HE.out⟩
set_option maxHeartbeats 2000000 in
set_option maxRecDepth 100000 in
theorem lplace_any (key : ByteArray) (skew : Int) (o : Ob) (w : World) (ho : o.Ok w) : Calls Try.prog 14 #[.agg #[.string key, .int .i64 skew], .agg o.cells.toArray] w fun e w' => e = .returned (.tuple #[.string ((plc key o).getD ⟨#[]⟩), .bool (plc key o).isSome]) ∧ Below w.heap.size w w' := by
  obtain ⟨L, hL⟩ : ∃ L, L = o.cells.toArray := ⟨_, rfl⟩
  have hB1 := below_al w (.cells #[.string key, .int .i64 skew] 23)
  have k1 := Bk.new w 23 #[.string key, .int .i64 skew]
  obtain ⟨W1, hW1⟩ : ∃ W1, W1 = w.alloc (.cells #[.string key, .int .i64 skew] 23) := ⟨_, rfl⟩
  rw [← hW1] at hB1 k1
  have hB2 := below_al W1 (.cells L 57)
  have k2 := Bk.new W1 57 L
  have k12 := k1.below' hB2
  have c0 : (W1.alloc (.cells L 57)).cell? ⟨W1.heap.size, 0, none⟩ = some (.int .i64 o.kind) := by
    rw [hL] at k2 ⊢
    exact k2.cell 0
  have c23 : (W1.alloc (.cells L 57)).cell? ⟨W1.heap.size, 23, none⟩ = some o.n.labels.v := by
    rw [hL] at k2 ⊢
    exact k2.cell 23
  obtain ⟨W2, hW2⟩ : ∃ W2, W2 = W1.alloc (.cells L 57) := ⟨_, rfl⟩
  have b12 := below_tr hB1 hB2
  rw [← hW2] at k12 b12
  have q0 := k12.cell 0
  have CG := Lib.hid (rget_any o.n.labels key W2 (ho.n.labels.below b12))
  have H2 := Lib.hid (And.intro hW1.symm (And.intro hW2.symm b12))
  rw [hW2] at q0
  rw [hW1] at c0 c23 q0
  rw [← hL]
  clear hB1 hB2 k1 k2 k12 b12 hW2 hW1 hL ho
  rw [World.size_alloc] at c0 c23
  cases hk : o.kind == 2 with
  | false =>
    have hp : plc key o = none := by
      unfold plc
      rw [if_neg (by simpa using hk)]
    have hk2 : (o.kind != 2) = true := by simp [bne, hk]
    rw [hp]
    clear hp
    go_enter Try.func14, Try.ntmps14
    go_wp2_with fail
    go_ret2
    rw [H2.out.1, H2.out.2.1]
    exact ⟨rfl, H2.out.2.2⟩
  | true =>
    have hp : plc key o = getL o.n.labels.l key := by
      unfold plc
      rw [if_pos (by simpa using hk)]
    have hk2 : (o.kind != 2) = false := by simp [bne, hk]
    rw [hp]
    clear hp
    obtain ⟨gl, hgl⟩ : ∃ g, g = getL o.n.labels.l key := ⟨_, rfl⟩
    rw [← hgl] at CG ⊢
    have HGL := Lib.hid hgl
    clear hgl
    go_enter Try.func14, Try.ntmps14
    go_wp2_with fail
    rw [H2.out.1, H2.out.2.1]
    refine CG.out.mono ?_
    rintro e W3 ⟨rfl, b3⟩
    have H3 := Lib.hid (below_tr H2.out.2.2 b3)
    clear b3
    go_wp2_with fail
    go_ret2
    exact ⟨rfl, H3.out⟩
end Go.Proofs.Ytkpklnalfomcbaa
end
section
namespace Go.Proofs.Ytkpklnalfomcbaa
open Go.RowKit
theorem at_alloc_ {P : Program} {ops : Array Oper} {Q : Exit → Act → World → Prop} {d t u ps af g} {rest : List Oper} {a : Act} {w : World}
    (h : wpList P ops Q (⟨d, .alloc t, u, ps, af, g⟩ :: rest) a w) : wpList P ops Q (⟨d, .alloc t, u, ps, af, g⟩ :: rest) a w := h
theorem at_store_ {P : Program} {ops : Array Oper} {Q : Exit → Act → World → Prop} {d t u x y ps af g} {rest : List Oper} {a : Act} {w : World}
    (h : wpList P ops Q (⟨d, .store t x y, u, ps, af, g⟩ :: rest) a w) : wpList P ops Q (⟨d, .store t x y, u, ps, af, g⟩ :: rest) a w := h
theorem at_load_ {P : Program} {ops : Array Oper} {Q : Exit → Act → World → Prop} {d t u x ps af g} {rest : List Oper} {a : Act} {w : World}
    (h : wpList P ops Q (⟨d, .load t x, u, ps, af, g⟩ :: rest) a w) : wpList P ops Q (⟨d, .load t x, u, ps, af, g⟩ :: rest) a w := h
end Go.Proofs.Ytkpklnalfomcbaa
end
section
namespace Go.Proofs.Ytkpklnalfomcbaa
open Go.RowKit Go.Proofs.Mem
open Go.Maps (Keyed string_keyed)
open Go.WideMaps (keyOf_string_mk)
set_option linter.unusedVariables false
set_option linter.unusedSimpArgs false
theorem strKs : Keyed Try.prog 9 := string_keyed Try.underlying9
theorem zeroIs (w : World) : (zeroValue 3).run Try.prog w = .ok (.int .i64 0) w := by kernel_rfl
theorem zeroSs (w : World) : (zeroValue 9).run Try.prog w = .ok (.string ⟨#[]⟩) w := by kernel_rfl
def CnI (key : ByteArray) (nodes : List Ob) (w : World) (mo ma j : Nat) (bv : Array Value) (W : World) : Prop :=
  ∃ Do Da, Mp Try.prog W 9 mo j Do ∧ CntM (fun _ => 0) (hasT key nodes j) Do ∧ Mp Try.prog W 9 ma j Da ∧ AtM (fun n => atN key (nodes.take j) n) Da ∧ Bk W w.heap.size 23 bv ∧ Below w.heap.size w W
section
variable {P : Program} {ops : Array Oper} {rest : List Oper} {o : Oper} {a : Act} {w : World} {Q : Exit → Act → World → Prop} {g i : Nat}
theorem wpl_loadat2 {cs : List Value} (hr : w.rangeAt g i cs) (hw : Region.wanted o (yielded ops a.tmps) = true) (ty : TypeId) (x : Operand) (ho : o.op = .load ty x)
    (hx : a.eval x = .pointer (some ⟨g, i, none⟩)) (d : TypeDesc) (hu : P.underlying ty = some d) (hd : d.isRow = true) (hi : (P.info? ty).map (·.size) = some cs.length)
    (h : wpList P ops Q rest (a.put o.dst (.agg cs.toArray)) w) : wpList P ops Q (o :: rest) a w := by
  have hr := run_loadAt_mid (P := P) w g i ty cs d hr hu hd hi
  refine wpList_step fun K hK => ?_
  rw [if_pos hw]
  unfold Oper.wp execOp
  simp only [ho, hx, Sem.run_bind, hr, Result.andThen_ok, Sem.run_pure]
  exact hK _ _ h
end
def cntN (k w : ByteArray) (nodes pods : List Ob) (p : ByteArray) : Nat := pods.countP fun o => isP w o && decide (atN k nodes o.p.node = some p)
def cntP2 (k w : ByteArray) (nodes pods : List Ob) (j : Nat) (p : ByteArray) : Nat := (pods.take j).countP fun o => isP w o && decide (atN k nodes o.p.node = some p)
theorem cntP2_zero {k w p : ByteArray} {nodes pods : List Ob} : cntP2 k w nodes pods 0 p = 0 := by unfold cntP2; simp
theorem cntP2_next {k w p : ByteArray} {nodes pods : List Ob} {i : Nat} {x : Ob} (hx : pods[i]? = some x) : cntP2 k w nodes pods (i + 1) p = cntP2 k w nodes pods i p + if isP w x && decide (atN k nodes x.p.node = some p) then 1 else 0 := by
  unfold cntP2
  rw [List.take_add_one, hx, List.countP_append]
  show _ + List.countP _ [x] = _
  rw [List.countP_cons]
  simp
theorem cntP2_le {k w p : ByteArray} {nodes pods : List Ob} {i : Nat} : cntP2 k w nodes pods i p ≤ pods.length := by
  unfold cntP2
  refine Nat.le_trans List.countP_le_length ?_
  rw [List.length_take]
  omega
theorem cntP2_all {k w p : ByteArray} {nodes pods : List Ob} : cntP2 k w nodes pods pods.length p = cntN k w nodes pods p := by unfold cntP2 cntN; rw [List.take_length]
def PnI (key owner : ByteArray) (nodes pods : List Ob) (w : World) (mo ma j : Nat) (W : World) : Prop :=
  ∃ Do Da, Mp Try.prog W 9 mo (nodes.length + j) Do ∧ CntM (cntP2 key owner nodes pods j) (hasT key nodes nodes.length) Do ∧ Mp Try.prog W 9 ma nodes.length Da ∧ AtM (fun n => atN key nodes n) Da ∧ Below w.heap.size w W
theorem getL_wf {r : Row Lab} {key q : ByteArray} {w : World} (hr : LabsOk w r) (h : getL r.l key = some q) : q.size ≤ maxLen := by
  unfold getL at h
  obtain ⟨x, hx, rfl⟩ := Option.map_eq_some_iff.1 h
  have h1 := (hr.2.2 x (List.mem_of_find?_eq_some hx)).2
  exact Nat.le_trans h1 reach_max
theorem plc_wf {o : Ob} {key q : ByteArray} {w : World} (ho : o.Ok w) (h : plc key o = some q) : q.size ≤ maxLen := by
  unfold plc at h
  split at h
  · exact getL_wf ho.n.labels h
  · cases h
set_option maxHeartbeats 8000000 in
set_option maxRecDepth 100000 in
theorem counts_any (key : ByteArray) (skew : Int) (owner : ByteArray) (w : World) (A : Option Addr) (c : Nat) (nodes : List Ob) (hA : Sl w 47 (.slice A nodes.length c) nodes.length (nodes.flatMap Ob.cells)) (hok : ∀ x ∈ nodes, x.Ok w) (hu : (kys nodes).Nodup) (hn : nodes.length ≤ 1000)
    (A2 : Option Addr) (c2 : Nat) (pods : List Ob) (hA2 : Sl w 47 (.slice A2 pods.length c2) pods.length (pods.flatMap Ob.cells)) (hok2 : ∀ x ∈ pods, x.Ok w) (hn2 : pods.length ≤ 1000) :
    Calls Try.prog 23 #[.agg #[.string key, .int .i64 skew], .string owner, .slice A nodes.length c, .slice A2 pods.length c2] w fun e w' => ∃ mo n D, e = .returned (.map (some mo)) ∧ Mp Try.prog w' 9 mo n D ∧ n ≤ nodes.length + pods.length ∧ CntM (cntN key owner nodes pods) (hasT key nodes nodes.length) D ∧ w.heap.size ≤ mo ∧ Below w.heap.size w w' := by
  have HL := Lib.hid (And.intro hA (And.intro hok (And.intro hu (And.intro hn (And.intro hA2 (And.intro hok2 hn2))))))
  have HU := Lib.hid (Try.underlying57)
  have hmm := @run_makeMap Try.prog
  clear hA hok hu hn hA2 hok2 hn2
  go_enter Try.func23, Try.ntmps23
  go_wp2_with fail
  clear hmm
  obtain ⟨W0, hW0⟩ : ∃ W0, W0 = ((w.alloc (.cells #[.string key, .int .i64 skew] 23)).alloc (.map #[] 0)).alloc (.map #[] 0) := ⟨_, rfl⟩
  obtain ⟨mo, hmo⟩ : ∃ m, m = w.heap.size + 1 := ⟨_, rfl⟩
  have m1 : Mp Try.prog W0 9 mo 0 (.map []) := by
    have h := Mp.made (w.alloc (.cells #[.string key, .int .i64 skew] 23)) Try.prog 9
    rw [World.size_alloc] at h
    rw [hW0, hmo]
    exact h.alloc _
  have m2 : Mp Try.prog W0 9 (mo + 1) 0 (.map []) := by
    have h := Mp.made ((w.alloc (.cells #[.string key, .int .i64 skew] 23)).alloc (.map #[] 0)) Try.prog 9
    rw [World.size_alloc, World.size_alloc] at h
    rw [hW0, hmo]
    exact h
  have kb : Bk W0 w.heap.size 23 #[.string key, .int .i64 skew] := by
    rw [hW0]
    exact ((Bk.new w _ _).alloc _).alloc _
  have B0 : Below w.heap.size w W0 := by
    rw [hW0]
    exact below_tr (below_tr (below_al _ _) (below_al _ _)) (below_al _ _)
  rw [show w.heap.size + 1 + 1 = mo + 1 by omega, ← hW0, ← hmo]
  have h0 : Hid (CnI key nodes w mo (mo + 1) 0 #[.string key, .int .i64 skew] W0) := ⟨.map [], .map [], m1, cntM_congr cntM_nil (fun _ => rfl) (fun _ => hasT_zero.symm), m2, atM_congr atM_nil (fun _ => by simp [atN]), kb, B0⟩
  have HMO := Lib.hid hmo
  clear hW0 hmo m1 m2 kb B0
  go_loopw [23] (fun vi W => ∃ j : Nat, j ≤ nodes.length ∧ vi = .int .i64 j ∧ Hid (CnI key nodes w mo (mo + 1) j #[.string key, .int .i64 skew] W)) (fun vi _ => nodes.length - (intOf vi).toNat)
  case atStart => exact ⟨0, Nat.zero_le _, rfl, h0⟩
  case round =>
    clear h0
    obtain ⟨j, hj, rfl, hJ⟩ := hrel
    obtain ⟨Do, Da, hMo, hCo, hMa, hCa, hkb, hB⟩ := hJ.out
    clear hJ
    have hnn := HL.out.2.2.2.1
    by_cases hlt : j < nodes.length
    · obtain ⟨b1, o1, rfl, hb1, hadd1, hcell⟩ := Sl.row' (s := 47) (f := Ob.cells) (fun _ => rfl) (by omega) (HL.out.1.below hB) j hlt
      have hr : wr.rangeAt b1 (o1 + j * 47) (nodes[j]).cells := fun i u hi => hcell i u hi
      have hox := (HL.out.2.1 _ (List.getElem_mem hlt)).below hB
      obtain ⟨x, hx⟩ : ∃ x : Ob, x = nodes[j] := ⟨_, rfl⟩
      have hxg : nodes[j]? = some x := by rw [hx]; exact List.getElem?_eq_getElem hlt
      rw [← hx] at hr hox
      have hiL := cells_is _ hox
      obtain ⟨L, hL⟩ : ∃ L : Array Value, L = x.cells.toArray := ⟨_, rfl⟩
      rw [← hL] at hiL
      have hlx : x.cells = L.toList := by rw [hL]
      rw [hlx] at hr
      have hzz : Z47.size = L.size := hiL.1.symm
      have kz := Bk.new wr 57 Z47
      have kS := setCells_whole kz hzz
      have bS := below_setCells (g := wr.heap.size) L.toList 0 (below_al wr (.cells Z47 57)) (Nat.le_refl _)
      obtain ⟨W2, hW2⟩ : ∃ W2, W2 = (wr.alloc (.cells Z47 57)).setCells wr.heap.size 0 L.toList := ⟨_, rfl⟩
      rw [← hW2] at kS bS
      have hlen' : (L.toList.toArray) = L := by simp
      have HR := Lib.hid (And.intro hr (And.intro kz (And.intro hW2.symm (And.intro hiL (And.intro hzz (And.intro bS (And.intro hlen' (And.intro (hox.below bS) kS))))))))
      have HXL := Lib.hid hL
      have HK := Lib.hid (hkb.below' bS)
      have HJ := Lib.hid (And.intro hMo (And.intro hCo (And.intro hMa (And.intro hCa (And.intro hkb (And.intro hB hxg))))))
      clear hMo hCo hMa hCa hkb hB hr hiL hx hL hlx hzz kz kS bS hW2 hcell hlen' hox hb1 hadd1 hxg
      go_wp2_with (first | ((with_reducible refine at_load_ ?_); refine wpl_loadat2 HR.out.1 rfl 57 (.tmp 25) rfl rfl _ HU.out rfl (by simpa using info47 HR.out.2.2.2.1) ?_; rw [HR.out.2.2.2.2.2.2.1]) | ((with_reducible refine at_alloc_ ?_); refine wpl_allocg rfl (run_alloc47 rfl _) ?_) | ((with_reducible refine at_store_ ?_); refine wpl_storeg HR.out.2.1 HR.out.2.2.2.2.1 rfl rfl 57 (.tmp 12) (.tmp 26) rfl rfl rfl (info47 HR.out.2.2.2.1) HR.out.2.2.2.1.2 ?_; rw [HR.out.2.2.1]) | ((with_reducible refine at_load_ ?_); refine wpl_loadg HK.out rfl 23 (.tmp 4) rfl rfl _ Try.underlying23 rfl (by kernel_rfl) ?_) | ((with_reducible refine at_load_ ?_); refine wpl_loadg HR.out.2.2.2.2.2.2.2.2 rfl 57 (.tmp 12) rfl rfl _ HU.out rfl (info47 HR.out.2.2.2.1) ?_))
      rw [HXL.out]
      refine (splace_any key skew x W2 HR.out.2.2.2.2.2.2.2.1).mono ?_
      rintro e W3 ⟨rfl, b3⟩
      have b03 := below_tr HR.out.2.2.2.2.2.1 b3
      have hMo3 := Mp.below HJ.out.1 b03
      have hMa3 := Mp.below HJ.out.2.2.1 b03
      have kS3 := HR.out.2.2.2.2.2.2.2.2.below' b3
      have H3 := Lib.hid (And.intro (HJ.out.2.2.2.2.1.below' b03) (below_tr HJ.out.2.2.2.2.2.1 b03))
      clear b3 b03
      cases hq : plc key x with
      | none =>
        have HE : Hid (CnI key nodes w mo (mo + 1) (j + 1) #[.string key, .int .i64 skew] W3) := Lib.hid ⟨Do, Da, Mp.mono hMo3 (Nat.le_succ _), cntM_congr HJ.out.2.1 (fun _ => rfl) (fun p => by rw [hasT_next HJ.out.2.2.2.2.2.2, hq]; simp), Mp.mono hMa3 (Nat.le_succ _), atM_congr HJ.out.2.2.2.1 (fun n => at_stay HL.out.2.2.1 HJ.out.2.2.2.2.2.2 hq n), H3.out.1, H3.out.2⟩
        simp only [Option.getD_none, Option.isSome_none]
        clear hMo3 hMa3 kS3 hq
        go_wp2_with fail
        exact ⟨⟨j + 1, by omega, by go_num, HE⟩, by simp [intOf]; omega⟩
      | some q =>
        simp only [Option.getD_some, Option.isSome_some]
        have hcn := HJ.out.2.1 q.data.toList
        have hv0 : valAt Do (.string q.data.toList) (.int .i64 0) = .int .i64 0 := hcn.2
        have hkq := keyOf_string_mk Try.underlying9 (plc_wf HR.out.2.2.2.2.2.2.2.1 hq)
        have hkx := keyOf_string_mk Try.underlying9 (s := x.name) (Nat.le_trans HR.out.2.2.2.2.2.2.2.1.name reach_max)
        have hjm : j < maxLen := by unfold maxLen; omega
        have hme : mo ≠ wr.heap.size := hMo3.ne_bk kS3
        have hme2 : mo + 1 ≠ wr.heap.size := hMa3.ne_bk kS3
        have hL1 : L[1]? = some (.string x.name) := by rw [HXL.out]; rfl
        have HQ := Lib.hid (And.intro hcn (And.intro hme (And.intro hme2 (And.intro hL1 hq))))
        clear hcn hme hme2 hL1 hq
        go_wp2_with (first
          | (at_lookup; refine wpl_look rfl _ _ 77 rfl 9 3 strKs Try.underlying77 zeroIs mo j Do rfl hMo3 _ _ rfl hkq ?_; rw [hv0])
          | (at_mapUpdate; refine wpl_store_map rfl _ _ _ 77 rfl 9 3 strKs Try.underlying77 mo j Do rfl hMo3 hjm _ (.int .i64 ((0 : Nat) : Int)) _ rfl rfl hkq ?_; intro W4 hM4 hg4 hs4; have hMa4 := hMa3.grown hg4 (fun e => by injection e with e; omega); have kS4 := kS3.grown hg4 (fun e => HQ.out.2.1 (by injection e with e; exact e.symm)); have c1 := kS4.cell 1; rw [HQ.out.2.2.2.1] at c1; have HG4 := Lib.hid (And.intro hg4 hs4); clear hg4 hs4)
          | (at_mapUpdate; refine wpl_store_map rfl _ _ _ 113 rfl 9 9 strKs Try.underlying113 (mo + 1) j Da rfl hMa4 hjm _ (.string q) _ rfl rfl hkx ?_; intro W5 hM5 hg5 hs5; have HG5 := Lib.hid (And.intro hg5 hs5); clear hg5 hs5))
        have hM45 := hM4.grown HG5.out.1 (fun e => by injection e with e; omega)
        have hk5 := (H3.out.1.grown HG4.out.1 (fun e => by injection e with e; have := HMO.out; omega)).grown HG5.out.1 (fun e => by injection e with e; have := HMO.out; omega)
        have hB5 := below_map (below_map H3.out.2 HG4.out.1 H3.out.2.size (by have := HMO.out; omega)) HG5.out.1 (by have := HG4.out.2; have := H3.out.2.size; omega) (by have := HMO.out; omega)
        have HE : Hid (CnI key nodes w mo (mo + 1) (j + 1) #[.string key, .int .i64 skew] W5) := Lib.hid ⟨_, _, hM45, cntM_congr (cntM_put (Mp.isMap hMo3) HJ.out.2.1 q.data.toList 0) (fun p => by simp) (fun p => by rw [hasT_next HJ.out.2.2.2.2.2.2, HQ.out.2.2.2.2]; exact congrArg (fun b => hasT key nodes j p || b) (decide_eq_decide.2 ⟨fun h => by rw [h], fun h => by injection h with h; exact h.symm⟩)), hM5, atM_congr (atM_put (Mp.isMap hMa3) HJ.out.2.2.2.1 x.name.data.toList q) (fun n => at_step HL.out.2.2.1 HJ.out.2.2.2.2.2.2 HQ.out.2.2.2.2 n), hk5, hB5⟩
        exact ⟨⟨j + 1, by omega, by go_num, HE⟩, by simp [intOf]; omega⟩
    · have hjl : j = nodes.length := by omega
      subst hjl
      have h1 : Hid (PnI key owner nodes pods w mo (mo + 1) 0 wr) := Lib.hid ⟨Do, Da, hMo, cntM_congr hCo (fun _ => cntP2_zero.symm) (fun _ => rfl), hMa, atM_congr hCa (fun n => by rw [List.take_length]), hB⟩
      clear hMo hCo hMa hCa hkb hB
      go_wp2_with fail
      go_loopw [45] (fun vi W => ∃ j : Nat, j ≤ pods.length ∧ vi = .int .i64 j ∧ Hid (PnI key owner nodes pods w mo (mo + 1) j W)) (fun vi _ => pods.length - (intOf vi).toNat)
      case atStart => exact ⟨0, Nat.zero_le _, rfl, h1⟩
      case round =>
        clear h1
        obtain ⟨j, hj, rfl, hJ⟩ := hrel
        obtain ⟨Do, Da, hMo, hCo, hMa, hCa, hB⟩ := hJ.out
        clear hJ
        have hnn2 := HL.out.2.2.2.2.2.2
        by_cases hlt : j < pods.length
        · obtain ⟨b1, o1, rfl, hb1, hadd1, hcell⟩ := Sl.row' (s := 47) (f := Ob.cells) (fun _ => rfl) (by omega) (HL.out.2.2.2.2.1.below hB) j hlt
          have hr : wr.rangeAt b1 (o1 + j * 47) (pods[j]).cells := fun i u hi => hcell i u hi
          have hox := (HL.out.2.2.2.2.2.1 _ (List.getElem_mem hlt)).below hB
          obtain ⟨x, hx⟩ : ∃ x : Ob, x = pods[j] := ⟨_, rfl⟩
          have hxg : pods[j]? = some x := by rw [hx]; exact List.getElem?_eq_getElem hlt
          rw [← hx] at hr hox
          have hiL := cells_is _ hox
          obtain ⟨L, hL⟩ : ∃ L : Array Value, L = x.cells.toArray := ⟨_, rfl⟩
          rw [← hL] at hiL
          have hlx : x.cells = L.toList := by rw [hL]
          rw [hlx] at hr
          have hzz : Z47.size = L.size := hiL.1.symm
          have kz := Bk.new wr 57 Z47
          have kS := setCells_whole kz hzz
          have bS := below_setCells (g := wr.heap.size) L.toList 0 (below_al wr (.cells Z47 57)) (Nat.le_refl _)
          obtain ⟨W2, hW2⟩ : ∃ W2, W2 = (wr.alloc (.cells Z47 57)).setCells wr.heap.size 0 L.toList := ⟨_, rfl⟩
          rw [← hW2] at kS bS
          have hlen' : (L.toList.toArray) = L := by simp
          have hMo2 := Mp.below hMo bS
          have hMa2 := Mp.below hMa bS
          have c0 := kS.cell 0
          have c10 := kS.cell 10
          have c11 := kS.cell 11
          have c12 := kS.cell 12
          rw [show L[0]? = some (.int .i64 x.kind) by rw [hL]; rfl] at c0
          rw [show L[10]? = some (.string x.p.owner) by rw [hL]; rfl] at c10
          rw [show L[11]? = some (.string x.p.node) by rw [hL]; rfl] at c11
          rw [show L[12]? = some (.int .i64 x.p.phase) by rw [hL]; rfl] at c12
          have hkx := keyOf_string_mk Try.underlying9 (s := x.p.node) (Nat.le_trans hox.p.node reach_max)
          have hv : valAt Da (.string x.p.node.data.toList) (.string ⟨#[]⟩) = .string ((atN key nodes x.p.node).getD ⟨#[]⟩) := (hCa x.p.node.data.toList).2
          have hh : Maps.has Da (.string x.p.node.data.toList) = (atN key nodes x.p.node).isSome := (hCa x.p.node.data.toList).1
          have HSt : Hid ((∀ p, (isP owner x && decide (atN key nodes x.p.node = some p)) = false) → PnI key owner nodes pods w mo (mo + 1) (j + 1) W2) := Lib.hid fun hf => ⟨Do, Da, Mp.mono hMo2 (by omega), cntM_congr hCo (fun p => by rw [cntP2_next hxg, hf p]; rfl) (fun _ => rfl), hMa2, hCa, below_tr hB bS⟩
          have hwq : ∀ q, atN key nodes x.p.node = some q → q.size ≤ maxLen := fun q hq => by
            unfold atN at hq
            obtain ⟨y, hy, hq⟩ := List.exists_of_findSome?_eq_some hq
            split at hq
            · exact plc_wf (HL.out.2.1 y hy) hq
            · cases hq
          have HR := Lib.hid (And.intro hr (And.intro kz (And.intro hW2.symm (And.intro hiL (And.intro hzz (And.intro bS (And.intro hlen' (And.intro (hox.below bS) kS))))))))
          have HJ := Lib.hid (And.intro hMo2 (And.intro hCo (And.intro hMa2 (And.intro hCa (And.intro (below_tr hB bS) hxg)))))
          clear hMo hCo hMa hCa hB hr hiL hx hL hlx hzz kz kS bS hW2 hcell hlen' hox hb1 hadd1 hxg
          have hcs : ((∀ p, (isP owner x && decide (atN key nodes x.p.node = some p)) = false) ∧ ((x.kind == 1) = false ∨ ((x.kind == 1) = true ∧ (atN key nodes x.p.node).isSome = false) ∨ ((x.kind == 1) = true ∧ (atN key nodes x.p.node).isSome = true ∧ (x.p.owner.toList == owner.toList) = false) ∨ ((x.kind == 1) = true ∧ (atN key nodes x.p.node).isSome = true ∧ (x.p.owner.toList == owner.toList) = true ∧ (x.p.phase == 1) = false ∧ (x.p.phase == 2) = false))) ∨ (∃ q, atN key nodes x.p.node = some q ∧ isP owner x = true ∧ ((x.kind == 1) = true ∧ (x.p.owner.toList == owner.toList) = true ∧ ((x.p.phase == 1) = true ∨ ((x.p.phase == 1) = false ∧ (x.p.phase == 2) = true)))) := by
            by_cases h1 : x.kind = 1
            · cases h2 : atN key nodes x.p.node with
              | none => exact .inl ⟨fun p => by simp, .inr (.inl ⟨by simp [h1], rfl⟩)⟩
              | some q =>
                by_cases h3 : x.p.owner = owner
                · by_cases h4 : x.p.phase = 1
                  · exact .inr ⟨q, rfl, by simp [isP, h1, h3, h4], by simp [h1], by simp [h3], .inl (by simp [h4])⟩
                  · by_cases h5 : x.p.phase = 2
                    · exact .inr ⟨q, rfl, by simp [isP, h1, h3, h4, h5], by simp [h1], by simp [h3], .inr ⟨by simp [h4], by simp [h5]⟩⟩
                    · exact .inl ⟨fun p => by simp [isP, h4, h5], .inr (.inr (.inr ⟨by simp [h1], rfl, by simp [h3], by simp [h4], by simp [h5]⟩))⟩
                · exact .inl ⟨fun p => by simp [isP, h3], .inr (.inr (.inl ⟨by simp [h1], rfl, tl_neS h3⟩))⟩
            · exact .inl ⟨fun p => by simp [isP, h1], .inl (by simp [h1])⟩
          rcases hcs with ⟨hf, hcs⟩ | ⟨q, hq, hp, h1, h2, h3⟩
          · have HE := Lib.hid (HSt.out hf)
            clear hf HSt hwq
            rcases hcs with h1 | ⟨h1, h2⟩ | ⟨h1, h2, h3⟩ | ⟨h1, h2, h3, h4, h5⟩
            · go_wp2_with (first | ((with_reducible refine at_load_ ?_); refine wpl_loadat2 HR.out.1 rfl 57 (.tmp 47) rfl rfl _ HU.out rfl (by simpa using info47 HR.out.2.2.2.1) ?_; rw [HR.out.2.2.2.2.2.2.1]) | ((with_reducible refine at_alloc_ ?_); refine wpl_allocg rfl (run_alloc47 rfl _) ?_) | ((with_reducible refine at_store_ ?_); refine wpl_storeg HR.out.2.1 HR.out.2.2.2.2.1 rfl rfl 57 (.tmp 16) (.tmp 48) rfl rfl rfl (info47 HR.out.2.2.2.1) HR.out.2.2.2.1.2 ?_; rw [HR.out.2.2.1]) | (at_lookup; refine wpl_look_ok rfl _ _ 113 rfl 9 9 strKs Try.underlying113 zeroSs (mo + 1) nodes.length Da rfl hMa2 _ _ rfl hkx ?_; rw [hv, hh]))
              exact ⟨⟨j + 1, by omega, by go_num, HE⟩, by simp [intOf]; omega⟩
            · rw [h2] at hh
              clear h2
              go_wp2_with (first | ((with_reducible refine at_load_ ?_); refine wpl_loadat2 HR.out.1 rfl 57 (.tmp 47) rfl rfl _ HU.out rfl (by simpa using info47 HR.out.2.2.2.1) ?_; rw [HR.out.2.2.2.2.2.2.1]) | ((with_reducible refine at_alloc_ ?_); refine wpl_allocg rfl (run_alloc47 rfl _) ?_) | ((with_reducible refine at_store_ ?_); refine wpl_storeg HR.out.2.1 HR.out.2.2.2.2.1 rfl rfl 57 (.tmp 16) (.tmp 48) rfl rfl rfl (info47 HR.out.2.2.2.1) HR.out.2.2.2.1.2 ?_; rw [HR.out.2.2.1]) | (at_lookup; refine wpl_look_ok rfl _ _ 113 rfl 9 9 strKs Try.underlying113 zeroSs (mo + 1) nodes.length Da rfl hMa2 _ _ rfl hkx ?_; rw [hv, hh]))
              exact ⟨⟨j + 1, by omega, by go_num, HE⟩, by simp [intOf]; omega⟩
            · rw [h2] at hh
              clear h2
              go_wp2_with (first | ((with_reducible refine at_load_ ?_); refine wpl_loadat2 HR.out.1 rfl 57 (.tmp 47) rfl rfl _ HU.out rfl (by simpa using info47 HR.out.2.2.2.1) ?_; rw [HR.out.2.2.2.2.2.2.1]) | ((with_reducible refine at_alloc_ ?_); refine wpl_allocg rfl (run_alloc47 rfl _) ?_) | ((with_reducible refine at_store_ ?_); refine wpl_storeg HR.out.2.1 HR.out.2.2.2.2.1 rfl rfl 57 (.tmp 16) (.tmp 48) rfl rfl rfl (info47 HR.out.2.2.2.1) HR.out.2.2.2.1.2 ?_; rw [HR.out.2.2.1]) | (at_lookup; refine wpl_look_ok rfl _ _ 113 rfl 9 9 strKs Try.underlying113 zeroSs (mo + 1) nodes.length Da rfl hMa2 _ _ rfl hkx ?_; rw [hv, hh]))
              exact ⟨⟨j + 1, by omega, by go_num, HE⟩, by simp [intOf]; omega⟩
            · rw [h2] at hh
              clear h2
              go_wp2_with (first | ((with_reducible refine at_load_ ?_); refine wpl_loadat2 HR.out.1 rfl 57 (.tmp 47) rfl rfl _ HU.out rfl (by simpa using info47 HR.out.2.2.2.1) ?_; rw [HR.out.2.2.2.2.2.2.1]) | ((with_reducible refine at_alloc_ ?_); refine wpl_allocg rfl (run_alloc47 rfl _) ?_) | ((with_reducible refine at_store_ ?_); refine wpl_storeg HR.out.2.1 HR.out.2.2.2.2.1 rfl rfl 57 (.tmp 16) (.tmp 48) rfl rfl rfl (info47 HR.out.2.2.2.1) HR.out.2.2.2.1.2 ?_; rw [HR.out.2.2.1]) | (at_lookup; refine wpl_look_ok rfl _ _ 113 rfl 9 9 strKs Try.underlying113 zeroSs (mo + 1) nodes.length Da rfl hMa2 _ _ rfl hkx ?_; rw [hv, hh]))
              exact ⟨⟨j + 1, by omega, by go_num, HE⟩, by simp [intOf]; omega⟩
          · rw [hq] at hv hh
            simp only [Option.getD_some, Option.isSome_some] at hv hh
            have hkq := keyOf_string_mk Try.underlying9 (hwq q hq)
            have hv0 : valAt Do (.string q.data.toList) (.int .i64 0) = .int .i64 (cntP2 key owner nodes pods j q) := (HJ.out.2.1 q.data.toList).2
            have hcl : cntP2 key owner nodes pods j q ≤ pods.length := cntP2_le
            have HCC : Hid (CntM (cntP2 key owner nodes pods (j + 1)) (hasT key nodes nodes.length) (Do.put (.string q.data.toList) (.held (.int .i64 ((cntP2 key owner nodes pods j q + 1 : Nat) : Int))))) := Lib.hid (cntM_congr (cntM_put (Mp.isMap hMo2) HJ.out.2.1 q.data.toList (cntP2 key owner nodes pods j q + 1)) (fun p => by
              rw [cntP2_next HJ.out.2.2.2.2.2, hp, hq]
              by_cases e : p = q
              · subst e
                have e2 : p = (⟨p.data.toList.toArray⟩ : ByteArray) := rfl
                rw [if_pos e2]
                simp
              · have e2 : ¬ p = (⟨q.data.toList.toArray⟩ : ByteArray) := e
                have e3 : ¬ some q = some p := fun h => e (by injection h with h; exact h.symm)
                rw [if_neg e2]
                simp [e3]) (fun p => by
              by_cases e : p = q
              · subst e
                have : hasT key nodes nodes.length p = true := hasT_all.2 (atN_place hq)
                rw [this]
                rfl
              · have e2 : ¬ p = (⟨q.data.toList.toArray⟩ : ByteArray) := e
                rw [decide_eq_false e2, Bool.or_false]))
            have hjm : nodes.length + j < maxLen := by
              have := HL.out.2.2.2.1
              unfold maxLen
              omega
            obtain ⟨cq, hcq⟩ : ∃ n, n = cntP2 key owner nodes pods j q := ⟨_, rfl⟩
            rw [← hcq] at hv0 hcl HCC
            clear hcq HSt hwq hp hq
            rcases h3 with h3 | ⟨h3, h4⟩
            all_goals
              go_wp2_with (first | ((with_reducible refine at_load_ ?_); refine wpl_loadat2 HR.out.1 rfl 57 (.tmp 47) rfl rfl _ HU.out rfl (by simpa using info47 HR.out.2.2.2.1) ?_; rw [HR.out.2.2.2.2.2.2.1]) | ((with_reducible refine at_alloc_ ?_); refine wpl_allocg rfl (run_alloc47 rfl _) ?_) | ((with_reducible refine at_store_ ?_); refine wpl_storeg HR.out.2.1 HR.out.2.2.2.2.1 rfl rfl 57 (.tmp 16) (.tmp 48) rfl rfl rfl (info47 HR.out.2.2.2.1) HR.out.2.2.2.1.2 ?_; rw [HR.out.2.2.1]) | (at_lookup; refine wpl_look_ok rfl _ _ 113 rfl 9 9 strKs Try.underlying113 zeroSs (mo + 1) nodes.length Da rfl hMa2 _ _ rfl hkx ?_; rw [hv, hh]) | (at_lookup; refine wpl_look rfl _ _ 77 rfl 9 3 strKs Try.underlying77 zeroIs mo (nodes.length + j) Do rfl hMo2 _ _ rfl hkq ?_; rw [hv0]) | (at_mapUpdate; refine wpl_store_map rfl _ _ _ 77 rfl 9 3 strKs Try.underlying77 mo (nodes.length + j) Do rfl hMo2 hjm _ (.int .i64 ((cq + 1 : Nat) : Int)) _ rfl (by go_num) hkq ?_; intro W3 hM3 hg3 hs3; have HE : Hid (PnI key owner nodes pods w mo (mo + 1) (j + 1) W3) := Lib.hid ⟨_, Da, hM3, HCC.out, hMa2.grown hg3 (fun e => by injection e with e; omega), HJ.out.2.2.2.1, below_map HJ.out.2.2.2.2.1 hg3 HJ.out.2.2.2.2.1.size (by have := HMO.out; omega)⟩; clear hM3 hg3 hs3))
              exact ⟨⟨j + 1, by omega, by go_num, HE⟩, by simp [intOf]; omega⟩
        · have hjl : j = pods.length := by omega
          subst hjl
          have hres := And.intro hMo (And.intro (Nat.le_refl (nodes.length + pods.length)) (And.intro (cntM_congr hCo (fun _ => cntP2_all) (fun _ => rfl)) (And.intro (show w.heap.size ≤ mo by have := HMO.out; omega) hB)))
          have HE := Lib.hid hres
          clear hMo hCo hMa hCa hB hres
          go_wp2_with fail
          go_ret
          exact ⟨mo, nodes.length + pods.length, Do, rfl, HE.out⟩
end Go.Proofs.Ytkpklnalfomcbaa
end
section
namespace Go.Proofs.Ytkpklnalfomcbaa
open Go.RowKit Go.Proofs.Mem
set_option linter.unusedVariables false
set_option linter.unusedSimpArgs false
def ivZ (x : Int) : Value := .int .i64 x
def maxZ (x : Int) (l : List Int) : Int := l.foldl max x
def minZ (x : Int) (l : List Int) : Int := l.foldl min x
theorem max_any (x : Int) (l : List Int) (n : Nat) (v : Value) (w : World) (hn : n = l.length + 1) (hl : n ≤ 5000) (h : Sl w 1 v n ((x :: l).map ivZ)) :
    Calls Try.prog 46 #[v] w fun e w' => e = .returned (.int .i64 (maxZ x l)) ∧ w = w' := by
  obtain ⟨A, c, rfl, hc, _⟩ := id h
  obtain ⟨ad, rfl, hbl, hcell⟩ := Sl.cell1 (k := 0) (u := ivZ x) h (by simp)
  have hcell0 : w.cell? ad = some (.int .i64 x) := by simpa [Addr.add, ivZ] using hcell
  clear hcell
  have hp : (0 : Int) < (n : Int) := by omega
  have hp1 : (1 : Int) ≤ (n : Int) := by omega
  go_enter Try.func46, Try.ntmps46
  go_wp2_with fail
  go_loop [4, 3] (fun i m => ∃ k : Nat, k + 1 ≤ n ∧ i = .int .i64 (k + 1 : Nat) ∧ m = .int .i64 (maxZ x (l.take k))) (fun i m => n - (intOf i).toNat)
  case atStart => exact ⟨0, by omega, rfl, rfl⟩
  case round =>
    obtain ⟨k, hk, rfl, rfl⟩ := hrel
    by_cases hlt : k + 1 < n
    · have hkl : k < l.length := by omega
      obtain ⟨ad', e', _, hcell⟩ := Sl.cell1 (k := k + 1) (u := ivZ l[k]) h (by simp [hkl])
      injection e' with e'
      subst e'
      unfold ivZ at hcell
      have hs : maxZ x (l.take (k + 1)) = max (maxZ x (l.take k)) l[k] := by
        unfold maxZ
        rw [List.take_succ_eq_append_getElem hkl, List.foldl_append]
        rfl
      generalize l[k] = y at hcell hs
      generalize maxZ x (l.take k) = m at hs ⊢
      have HS := Lib.hid hs
      clear hs h
      generalize hj : k + 1 = j at hlt hk hcell
      have hjj : ((k : Int) + 1) = j := by omega
      go_wp2_with fail
      go_round
      case rel => exact ⟨k + 1, by omega, by go_num, by rw [HS.out]; congr 1; split <;> omega⟩
      case measure => simp [intOf]; omega
    · have e : l.take k = l := List.take_of_length_le (by omega)
      rw [e]
      clear e h
      generalize hj : k + 1 = j at hlt hk ⊢
      go_wp2_with fail
      go_ret
      exact ⟨rfl, rfl⟩
theorem min_any (x : Int) (l : List Int) (n : Nat) (v : Value) (w : World) (hn : n = l.length + 1) (hl : n ≤ 5000) (h : Sl w 1 v n ((x :: l).map ivZ)) :
    Calls Try.prog 45 #[v] w fun e w' => e = .returned (.int .i64 (minZ x l)) ∧ w = w' := by
  obtain ⟨A, c, rfl, hc, _⟩ := id h
  obtain ⟨ad, rfl, hbl, hcell⟩ := Sl.cell1 (k := 0) (u := ivZ x) h (by simp)
  have hcell0 : w.cell? ad = some (.int .i64 x) := by simpa [Addr.add, ivZ] using hcell
  clear hcell
  have hp : (0 : Int) < (n : Int) := by omega
  have hp1 : (1 : Int) ≤ (n : Int) := by omega
  go_enter Try.func45, Try.ntmps45
  go_wp2_with fail
  go_loop [4, 3] (fun i m => ∃ k : Nat, k + 1 ≤ n ∧ i = .int .i64 (k + 1 : Nat) ∧ m = .int .i64 (minZ x (l.take k))) (fun i m => n - (intOf i).toNat)
  case atStart => exact ⟨0, by omega, rfl, rfl⟩
  case round =>
    obtain ⟨k, hk, rfl, rfl⟩ := hrel
    by_cases hlt : k + 1 < n
    · have hkl : k < l.length := by omega
      obtain ⟨ad', e', _, hcell⟩ := Sl.cell1 (k := k + 1) (u := ivZ l[k]) h (by simp [hkl])
      injection e' with e'
      subst e'
      unfold ivZ at hcell
      have hs : minZ x (l.take (k + 1)) = min (minZ x (l.take k)) l[k] := by
        unfold minZ
        rw [List.take_succ_eq_append_getElem hkl, List.foldl_append]
        rfl
      generalize l[k] = y at hcell hs
      generalize minZ x (l.take k) = m at hs ⊢
      have HS := Lib.hid hs
      clear hs h
      generalize hj : k + 1 = j at hlt hk hcell
      have hjj : ((k : Int) + 1) = j := by omega
      go_wp2_with fail
      go_round
      case rel => exact ⟨k + 1, by omega, by go_num, by rw [HS.out]; congr 1; split <;> omega⟩
      case measure => simp [intOf]; omega
    · have e : l.take k = l := List.take_of_length_le (by omega)
      rw [e]
      clear e h
      generalize hj : k + 1 = j at hlt hk ⊢
      go_wp2_with fail
      go_ret
      exact ⟨rfl, rfl⟩
end Go.Proofs.Ytkpklnalfomcbaa
end
