/-
  The walks of package valid: all, behavior, past, hpa; The walk of valid.empties at any object; The walk of valid.Check at any object; The walk of trimtablaw07.goes; What trimtablaw07.Right says of any object of kind 4; valid.Check answers as trimtablaw07.Right: the plain law.; valid.Check answers as trimtablaw07.Right, at any object.; trimtablaw07.Right at any object; Maps whose elements read as themselves, of whatever type: 'Mp' (block b is a map that holds D), what stands at a key ('valAt'), and the laws at the operations: look-up (without and with ok), store, delete, len; A store in memory, and the walks of store.New and of its note of what became of an object (where no event is struck).; The walk of the store's note (where no event is struck).; The keys of a store's map: a kind and a name.; slices.Delete of the first event of a row of the call's own.; The store's note where as many events are kept as may be: the first is struck.
-/
import Derived.Test.YtcbnmoghjhljbaaGreatCBKps3
import Derived.Test.YtcbnmoghjhljbaaGreatCBKps1
import Derived.Maps.OwnOps
import Derived.Maps.OwnSet
import Derived.Maps.Ext
import Derived.Sort.KeysCollected
import Derived.Test.YtcbnmoghjhljbaaGreatProg
import Derived.Deep.RegionLaw
import Derived.Deep.AppendLies
import Derived.IntWalk
import Derived.Outline
import Derived.DeepKeys4
import Derived.ProofKit
import Derived.OwnWalk
section
namespace Go.Proofs.YtcbnmoghjhljbaaGreat
open Go.RowKit Go.Proofs.Mem
set_option linter.unusedVariables false
set_option linter.unusedSimpArgs false
def cmetB (x : Met) : Bool := !(cmet1 x) && cmet2 x
set_option maxRecDepth 100000 in
theorem vall1_met (x : Met) (hx : x.Wf) (b : Nat) (w : World) (hb : b < w.heap.size) (hrg : w.rangeAt b 0 [.func (.func 89) #[] #[]]) : Calls Tryz.prog 111 #[.agg x.cells.toArray, .pointer (some ⟨b, 0, none⟩)] w fun e w' => e = .returned (.bool (!(cmetB x))) ∧ Below w.heap.size w w' := by
  refine px_calls (f := 111) (fn := Tryz.f111) (args := [.v (.agg x.cells.toArray), .p 0 0]) (B := [⟨false, 173, [.func (.func 89) #[] #[]]⟩]) (ρ0 := fun _ => (b, 0)) (H := ⟨⟨Tryz.prog, [], aggR, callTab [(6, .v (.bool (cmetB x)))], 8, litIn []⟩, w, fun _ => True, 0, [], fun _ => none, litIn [], fun _ => none⟩) aggR_ok (fun _ _ _ _ h => h) (by kernel_rfl) Tryz.func111 rfl (by kernel_rfl) (by show (2 : Nat) ≤ 8; decide) rfl (by simp [SV.lt]) trivial (Nat.zero_le _) ?_ (fun _ => [])
    ⟨[.call 89 [.v (.agg x.cells.toArray)] (.v (.bool (cmetB x)))], [], []⟩ [.v (.bool (!(cmetB x)))] (by kernel_rfl) ⟨paid2_cons (fun ρ _ w1 hb => vmetric_any x w1 hx) paid2_nil, fun q hq => (by cases hq), fun p hp => (by cases hp)⟩ (fun ρ w' _ hb => ⟨rfl, hb⟩)
  intro i bl hB
  cases i with
  | zero =>
    simp only [List.getElem?_cons_zero, Option.some.injEq] at hB
    subst hB
    exact ⟨rfl, hb, hrg⟩
  | succ i => simp at hB
set_option maxRecDepth 100000 in
theorem vall_met (r : Row Met) (w : World) (hr : MetsOk w r) : Calls Tryz.prog 88 #[r.v, .func (.func 89) #[] #[]] w fun e w' => e = .returned (.bool (!(r.l.any (fun x => !(cmetB x))))) ∧ Below w.heap.size w w' := by
  have HR := Lib.hid hr
  obtain ⟨v, l⟩ := r
  obtain ⟨A, c, e, _⟩ := id hr.1
  simp only at e
  subst e
  clear hr
  go_enter Tryz.func88, Tryz.ntmps88
  go_wp2_with fail
  have kb := Bk.new w 173 #[.func (.func 89) #[] #[]]
  have hB1 := below_al w (.cells #[.func (.func 89) #[] #[]] 173)
  have hlt0 := kb.lt
  generalize w.alloc (.cells #[.func (.func 89) #[] #[]] 173) = w1 at kb hB1 hlt0 ⊢
  have hr1 := HR.out.below hB1
  refine (contains_met ⟨.slice A l.length c, l⟩ [.pointer (some ⟨w.heap.size, 0, none⟩)] (fun x => !(cmetB x)) w1 hr1 (row_len hr1 (by decide)) ?_).mono ?_
  · intro k h w' hb'
    have kr := kb.below' hb'
    refine vall1_met l[k] (hr1.2.2 _ (List.getElem_mem h)) _ w' kr.lt ?_
    intro j v hj
    cases j with
    | zero =>
      simp only [List.getElem?_cons_zero, Option.some.injEq] at hj
      subst hj
      exact kr.cell 0
    | succ j => simp at hj
  rintro e w2 ⟨rfl, hb2⟩
  go_wp2_with fail
  go_ret
  exact ⟨rfl, hB1.trans (hb2.mono hB1.size)⟩
set_option maxRecDepth 100000 in
theorem vall1_pol (x : Pol) (hx : x.Wf) (b : Nat) (w : World) (hb : b < w.heap.size) (hrg : w.rangeAt b 0 [.func (.func 113) #[] #[]]) : Calls Tryz.prog 127 #[.agg x.cells.toArray, .pointer (some ⟨b, 0, none⟩)] w fun e w' => e = .returned (.bool (!(cpolB x))) ∧ Below w.heap.size w w' := by
  refine px_calls (f := 127) (fn := Tryz.f127) (args := [.v (.agg x.cells.toArray), .p 0 0]) (B := [⟨false, 195, [.func (.func 113) #[] #[]]⟩]) (ρ0 := fun _ => (b, 0)) (H := ⟨⟨Tryz.prog, [], aggR, callTab [(6, .v (.bool (cpolB x)))], 8, litIn []⟩, w, fun _ => True, 0, [], fun _ => none, litIn [], fun _ => none⟩) aggR_ok (fun _ _ _ _ h => h) (by kernel_rfl) Tryz.func127 rfl (by kernel_rfl) (by show (2 : Nat) ≤ 8; decide) rfl (by simp [SV.lt]) trivial (Nat.zero_le _) ?_ (fun _ => [])
    ⟨[.call 113 [.v (.agg x.cells.toArray)] (.v (.bool (cpolB x)))], [], []⟩ [.v (.bool (!(cpolB x)))] (by kernel_rfl) ⟨paid2_cons (fun ρ _ w1 hb => vpolicy_any x w1) paid2_nil, fun q hq => (by cases hq), fun p hp => (by cases hp)⟩ (fun ρ w' _ hb => ⟨rfl, hb⟩)
  intro i bl hB
  cases i with
  | zero =>
    simp only [List.getElem?_cons_zero, Option.some.injEq] at hB
    subst hB
    exact ⟨rfl, hb, hrg⟩
  | succ i => simp at hB
set_option maxRecDepth 100000 in
theorem vall_pol (r : Row Pol) (w : World) (hr : PolsOk w r) : Calls Tryz.prog 112 #[r.v, .func (.func 113) #[] #[]] w fun e w' => e = .returned (.bool (!(r.l.any (fun x => !(cpolB x))))) ∧ Below w.heap.size w w' := by
  have HR := Lib.hid hr
  obtain ⟨v, l⟩ := r
  obtain ⟨A, c, e, _⟩ := id hr.1
  simp only at e
  subst e
  clear hr
  go_enter Tryz.func112, Tryz.ntmps112
  go_wp2_with fail
  have kb := Bk.new w 195 #[.func (.func 113) #[] #[]]
  have hB1 := below_al w (.cells #[.func (.func 113) #[] #[]] 195)
  have hlt0 := kb.lt
  generalize w.alloc (.cells #[.func (.func 113) #[] #[]] 195) = w1 at kb hB1 hlt0 ⊢
  have hr1 := HR.out.below hB1
  refine (contains_pol ⟨.slice A l.length c, l⟩ [.pointer (some ⟨w.heap.size, 0, none⟩)] (fun x => !(cpolB x)) w1 hr1 (row_len hr1 (by decide)) ?_).mono ?_
  · intro k h w' hb'
    have kr := kb.below' hb'
    refine vall1_pol l[k] (hr1.2.2 _ (List.getElem_mem h)) _ w' kr.lt ?_
    intro j v hj
    cases j with
    | zero =>
      simp only [List.getElem?_cons_zero, Option.some.injEq] at hj
      subst hj
      exact kr.cell 0
    | succ j => simp at hj
  rintro e w2 ⟨rfl, hb2⟩
  go_wp2_with fail
  go_ret
  exact ⟨rfl, hB1.trans (hb2.mono hB1.size)⟩
def allPol (l : List Pol) : Bool := !(l.any (fun x => !(cpolB x)))
def allMet (l : List Met) : Bool := !(l.any (fun x => !(cmetB x)))
def cbehB (x : Bh) : Bool := ((betB x.window 0 1800 && betB x.pick 0 2) && decide ((x.policies.l.length : Int) ≤ 4)) && allPol x.policies.l
def lastOf (l : List Done) : Nat → Int
  | 0 => 0
  | j + 1 => (l[j]?.map Done.at').getD 0
theorem lastOf_succ {l : List Done} (k : Nat) (h : k < l.length) : lastOf l (k + 1) = l[k].at' := by
  show (l[k]?.map Done.at').getD 0 = _
  rw [List.getElem?_eq_getElem h]
  rfl
def pastAt (l : List Done) (k : Nat) (h : k < l.length) : Bool := !((!(betB l[k].at' (lastOf l k) 4611686018427387904) || !(betB l[k].from' 0 1000000)) || !(betB l[k].to' 0 1000000))
def pastOk (l : List Done) : Bool := decide (∀ k (h : k < l.length), pastAt l k h = true)
theorem pastOk_no {l : List Done} (k : Nat) (h : k < l.length) (e : pastAt l k h = false) : pastOk l = false := decide_eq_false fun hh => by rw [hh k h] at e; cases e
def cpastB (l : List Done) : Bool := pastOk l && decide ((l.length : Int) ≤ 32)
def chpaB (x : Hp) : Bool := ((((((((nmB x.target && decide (1 ≤ x.min)) && decide (x.min ≤ x.max)) && decide (x.max ≤ 1000000)) && betB (x.metrics.l.length : Int) 1 4) && allMet x.metrics.l) && betB x.tolerance 0 1000) && cbehB x.up) && cbehB x.down) && cpastB x.past.l
set_option maxRecDepth 100000 in
theorem vbehavior_any (x : Bh) (w : World) (hx : x.Ok w) : Calls Tryz.prog 90 #[.agg x.cells.toArray] w fun e w' => e = .returned (.bool (cbehB x)) ∧ Below w.heap.size w w' := by
  obtain ⟨x0, x1, ⟨v2, l2⟩⟩ := x
  obtain ⟨A2, c2, rfl⟩ : ∃ A c, v2 = .slice A l2.length c := by obtain ⟨A, c, e, _⟩ := hx.policies.1; exact ⟨A, c, e⟩
  refine px_plain (args := [.agg (⟨x0, x1, ⟨.slice A2 l2.length c2, l2⟩⟩ : Bh).cells.toArray]) (callTab [(5, .v (.bool (betB ((⟨x0, x1, ⟨.slice A2 l2.length c2, l2⟩⟩ : Bh).window) (0) (1800)))), (9, .v (.bool (betB ((⟨x0, x1, ⟨.slice A2 l2.length c2, l2⟩⟩ : Bh).pick) (0) (2)))), (20, .v (.bool (allPol (⟨x0, x1, ⟨.slice A2 l2.length c2, l2⟩⟩ : Bh).policies.l)))]) (litIn []) 22 Tryz.func90 (by kernel_rfl) (by kernel_rfl) (by simp)
    [.call 82 [.v (.int .i64 ((⟨x0, x1, ⟨.slice A2 l2.length c2, l2⟩⟩ : Bh).window)), .v (.int .i64 (0)), .v (.int .i64 (1800))] (.v (.bool (betB ((⟨x0, x1, ⟨.slice A2 l2.length c2, l2⟩⟩ : Bh).window) (0) (1800)))), .call 82 [.v (.int .i64 ((⟨x0, x1, ⟨.slice A2 l2.length c2, l2⟩⟩ : Bh).pick)), .v (.int .i64 (0)), .v (.int .i64 (2))] (.v (.bool (betB ((⟨x0, x1, ⟨.slice A2 l2.length c2, l2⟩⟩ : Bh).pick) (0) (2)))), .call 112 [.v ((⟨x0, x1, ⟨.slice A2 l2.length c2, l2⟩⟩ : Bh).policies.v), .v (.func (.func 113) #[] #[])] (.v (.bool (allPol (⟨x0, x1, ⟨.slice A2 l2.length c2, l2⟩⟩ : Bh).policies.l)))] [] [.v (.bool (cbehB (⟨x0, x1, ⟨.slice A2 l2.length c2, l2⟩⟩ : Bh)))] (by kernel_rfl) (fun p hp => by cases hp) ?_ (fun ρ w' hb => ⟨rfl, hb⟩)
  exact paid2_cons (fun ρ _ w1 hb => between_int _ _ _ w1) (paid2_cons (fun ρ _ w1 hb => between_int _ _ _ w1) (paid2_cons (fun ρ _ w1 hb => vall_pol _ w1 (hx.policies.below hb)) (paid2_nil)))
def paHyp (P : Program) (agg : BinOp → TypeId → Array Value → Array Value → Option Value) (w : World) (A : Option Addr) (n c : Nat) (ok : Bool) : Hyp :=
  ⟨⟨P, [], agg, fun _ => none, 35, litIn []⟩, w, fun _ => True, 0, [], fun id => match Nat.beq id 0 with
    | true => some fun _ => .br ok (.done .normal ⟨mkF [0, 2] [.v (.slice A n c), .v (.bool false)], []⟩) (.done .ret ⟨mkF [2] [.v (.bool false)], []⟩)
    | false => none, litIn [], fun _ => none⟩
theorem done_sz : (Tryz.prog.info? 134).map (·.size) = some 3 := by kernel_rfl
set_option maxRecDepth 100000 in
theorem vpast_any (r : Row Done) (w : World) (hr : DonesOk w r) : Calls Tryz.prog 91 #[r.v] w fun e w' => e = .returned (.bool (cpastB r.l)) ∧ Below w.heap.size w w' := by
  have hl := row_len hr (by decide)
  obtain ⟨v, l⟩ := r
  obtain ⟨A, c, e, _⟩ := id hr.1
  simp only at e hl
  subst e
  have hL : LoopSpec (paHyp Tryz.prog aggR w A l.length c (pastOk l)) (fun _ => [8, 3, 0, 6, 7, 2]) (0, .loop (loopBody Tryz.f91 0), [some (.v (.int .i64 0)), some (.v (.int .i64 0)), some (.v (.slice A l.length c)), some (.v (.slice A l.length c)), some (.v (.int .i64 (l.length : Int))), some (.v (.bool false))], []) := by
    refine px_loop (H := paHyp Tryz.prog aggR w A l.length c (pastOk l)) (K := .i64) aggR_ok (fun _ _ _ _ h => h) (by kernel_rfl) rfl (fun _ => [8, 3, 0, 6, 7, 2]) (kx := [0, 2]) (kr := [2]) rfl l.length 0 (fun k => ∀ i (h : i < l.length), i < k → pastAt l i h = true) (fun i h hi => absurd hi (Nat.not_lt_zero _)) (fun k => [.v (.int .i64 (lastOf l k)), .v (.slice A l.length c), .v (.slice A l.length c), .v (.int .i64 (l.length : Int)), .v (.bool false)]) (fun _ => [])
      (fun k => if h : k < l.length then some (⟨false, 134, Done.cells l[k]⟩, match A with | some ad => (ad.block, ad.off + k * 3) | none => (0, 0)) else none)
      (fun k => if h : k < l.length then callTab [(10, .p 0 0), (15, .v (.bool (betB l[k].at' (lastOf l k) 4611686018427387904))), (20, .v (.bool (betB l[k].from' 0 1000000))), (26, .v (.bool (betB l[k].to' 0 1000000)))] else callTab [])
      (fun _ => litIn []) (fun k s => match Nat.beq s 9 with | true => some (decide (k < l.length)) | false => none)
      (fun _ _ => rfl) (fun _ _ => rfl) ?_ (Nat.le_refl _) ?_
    · intro k x hx
      split at hx
      · rename_i hk
        obtain ⟨b, o, c', e, hb, hrg⟩ := row_range (r := ⟨.slice A l.length c, l⟩) (s := 3) (by decide) (fun _ => rfl) hr (Nat.lt_of_le_of_lt (Nat.zero_le _) hk)
        simp only [Value.slice.injEq] at e
        obtain ⟨rfl, -, -⟩ := e
        simp only [Option.some.injEq] at hx
        subst hx
        exact ⟨rfl, hb, elem_range (f := Done.cells) (s := 3) (fun _ => rfl) hrg k hk⟩
      · cases hx
    · intro k hk hJ
      by_cases hkn : k < l.length
      · obtain ⟨b, o, c', e, hb, hrg⟩ := row_range (r := ⟨.slice A l.length c, l⟩) (s := 3) (by decide) (fun _ => rfl) hr (Nat.lt_of_le_of_lt (Nat.zero_le _) hkn)
        simp only [Value.slice.injEq] at e
        obtain ⟨rfl, -, -⟩ := e
        rw [dif_pos hkn, dif_pos hkn, decide_eq_true hkn]
        refine ⟨.br ((!(betB l[k].at' (lastOf l k) 4611686018427387904) || !(betB l[k].from' 0 1000000)) || !(betB l[k].to' 0 1000000)) (.ret [some (.v (.bool false))] []) (.norm [some (.v (.int .i64 (IntKind.i64.wrap ((k : Int) + 1)))), some (.v (.int .i64 l[k].at')), some (.v (.slice (some ⟨b, o, none⟩) l.length c)), some (.v (.slice (some ⟨b, o, none⟩) l.length c)), some (.v (.int .i64 (l.length : Int))), some (.v (.bool false))] []),
          ⟨[.op (fun ρ => do pure (.value (← Instr.indexAt 52 (.slice (some ⟨b, o, none⟩) l.length c) (.int .i64 (k : Int))))) (.p 0 0), .call 85 [.v (.int .i64 l[k].at'), .v (.int .i64 (lastOf l k)), .v (.int .i64 4611686018427387904)] (.v (.bool (betB l[k].at' (lastOf l k) 4611686018427387904))),
            .call 82 [.v (.int .i64 l[k].from'), .v (.int .i64 0), .v (.int .i64 1000000)] (.v (.bool (betB l[k].from' 0 1000000))), .call 82 [.v (.int .i64 l[k].to'), .v (.int .i64 0), .v (.int .i64 1000000)] (.v (.bool (betB l[k].to' 0 1000000)))], [], [(decide ((k : Int) < (l.length : Int)), true)]⟩, by kernel_rfl, ⟨?_, ?_, ?_⟩, ?_⟩
        · refine paid2_cons (paid_index (s := 3) (by kernel_rfl) done_sz hkn fun ρ hX => ?_) (paid2_cons (fun ρ _ w1 hb => between_64 _ _ _ w1) (paid2_cons (fun ρ _ w1 hb => between_int _ _ _ w1) (paid2_cons (fun ρ _ w1 hb => between_int _ _ _ w1) paid2_nil)))
          rw [hX.2 _ rfl]
          exact ⟨rfl, rfl⟩
        · exact fun q hq => by cases hq
        · exact fun p hp => by rw [List.mem_singleton.1 hp]; exact decide_eq_true (Int.ofNat_lt.2 hkn)
        · refine ⟨fun hb => ⟨[.v (.bool false)], rfl, rfl, fun Q hQ => hQ.2 (pastOk_no k hkn ?_)⟩, fun hb => ⟨hkn, ?_, ?_, rfl⟩⟩
          · unfold pastAt
            rw [hb]
            rfl
          · refine fun i h hi => ?_
            rcases Nat.lt_or_eq_of_le (Nat.le_of_lt_succ hi) with h1 | h1
            · exact hJ i h h1
            · subst h1
              unfold pastAt
              rw [hb]
              rfl
          · rw [wrap_add k (by omega), lastOf_succ k hkn]
            rfl
      · have : k = l.length := by omega
        subst this
        rw [dif_neg hkn, dif_neg hkn, decide_eq_false hkn]
        refine ⟨.exit [some (.v (.slice A l.length c)), some (.v (.bool false))] [], ⟨[], [], [(decide ((l.length : Int) < (l.length : Int)), false)]⟩, by kernel_rfl, ⟨fun x hx => (by cases hx), fun x hx => (by cases hx), fun p hp => by rw [List.mem_singleton.1 hp]; simp⟩, [.v (.slice A l.length c), .v (.bool false)], rfl, rfl, fun Q hQ => ?_⟩
        exact hQ.1 (decide_eq_true fun i h => hJ i h h)
  refine px_calls (f := 91) (fn := Tryz.f91) (args := [.v (.slice A l.length c)]) (B := []) (ρ0 := fun _ => (0, 0)) (H := paHyp Tryz.prog aggR w A l.length c (pastOk l)) aggR_ok (fun _ _ _ _ h => h) (by kernel_rfl) Tryz.func91 rfl (by kernel_rfl) (by show (1 : Nat) ≤ 35; decide) rfl (by simp [SV.lt]) trivial (Nat.le_refl _) (fun i b hb => by simp at hb) (fun _ => [8, 3, 0, 6, 7, 2])
    ⟨[], [(0, .loop (loopBody Tryz.f91 0), [some (.v (.int .i64 0)), some (.v (.int .i64 0)), some (.v (.slice A l.length c)), some (.v (.slice A l.length c)), some (.v (.int .i64 (l.length : Int))), some (.v (.bool false))], [])], []⟩ [.v (.bool (cpastB l))] (by kernel_rfl) ⟨fun x hx => (by cases hx), fun q hq => by rw [List.mem_singleton.1 hq]; exact hL, fun p hp => (by cases hp)⟩ (fun ρ w' _ hb => ⟨rfl, hb⟩)
set_option maxRecDepth 100000 in
theorem vhpa_any (x : Hp) (w : World) (hx : x.Ok w) : Calls Tryz.prog 65 #[.agg x.cells.toArray] w fun e w' => e = .returned (.bool (chpaB x)) ∧ Below w.heap.size w w' := by
  obtain ⟨x0, x1, x2, ⟨v3, l3⟩, x4, ⟨u0, u1, ⟨v5, l5⟩⟩, ⟨d0, d1, ⟨v6, l6⟩⟩, ⟨v7, l7⟩⟩ := x
  obtain ⟨A3, c3, rfl⟩ : ∃ A c, v3 = .slice A l3.length c := by obtain ⟨A, c, e, _⟩ := hx.metrics.1; exact ⟨A, c, e⟩
  obtain ⟨A5, c5, rfl⟩ : ∃ A c, v5 = .slice A l5.length c := by obtain ⟨A, c, e, _⟩ := hx.up.policies.1; exact ⟨A, c, e⟩
  obtain ⟨A6, c6, rfl⟩ : ∃ A c, v6 = .slice A l6.length c := by obtain ⟨A, c, e, _⟩ := hx.down.policies.1; exact ⟨A, c, e⟩
  obtain ⟨A7, c7, rfl⟩ : ∃ A c, v7 = .slice A l7.length c := by obtain ⟨A, c, e, _⟩ := hx.past.1; exact ⟨A, c, e⟩
  refine px_plain (args := [.agg (⟨x0, x1, x2, ⟨.slice A3 l3.length c3, l3⟩, x4, ⟨u0, u1, ⟨.slice A5 l5.length c5, l5⟩⟩, ⟨d0, d1, ⟨.slice A6 l6.length c6, l6⟩⟩, ⟨.slice A7 l7.length c7, l7⟩⟩ : Hp).cells.toArray]) (callTab [(5, .v (.bool (nmB (⟨x0, x1, x2, ⟨.slice A3 l3.length c3, l3⟩, x4, ⟨u0, u1, ⟨.slice A5 l5.length c5, l5⟩⟩, ⟨d0, d1, ⟨.slice A6 l6.length c6, l6⟩⟩, ⟨.slice A7 l7.length c7, l7⟩⟩ : Hp).target))), (27, .v (.bool (betB ((⟨x0, x1, x2, ⟨.slice A3 l3.length c3, l3⟩, x4, ⟨u0, u1, ⟨.slice A5 l5.length c5, l5⟩⟩, ⟨d0, d1, ⟨.slice A6 l6.length c6, l6⟩⟩, ⟨.slice A7 l7.length c7, l7⟩⟩ : Hp).metrics.l.length) (1) (4)))), (32, .v (.bool (allMet (⟨x0, x1, x2, ⟨.slice A3 l3.length c3, l3⟩, x4, ⟨u0, u1, ⟨.slice A5 l5.length c5, l5⟩⟩, ⟨d0, d1, ⟨.slice A6 l6.length c6, l6⟩⟩, ⟨.slice A7 l7.length c7, l7⟩⟩ : Hp).metrics.l))), (37, .v (.bool (betB ((⟨x0, x1, x2, ⟨.slice A3 l3.length c3, l3⟩, x4, ⟨u0, u1, ⟨.slice A5 l5.length c5, l5⟩⟩, ⟨d0, d1, ⟨.slice A6 l6.length c6, l6⟩⟩, ⟨.slice A7 l7.length c7, l7⟩⟩ : Hp).tolerance) (0) (1000)))), (42, .v (.bool (cbehB (⟨x0, x1, x2, ⟨.slice A3 l3.length c3, l3⟩, x4, ⟨u0, u1, ⟨.slice A5 l5.length c5, l5⟩⟩, ⟨d0, d1, ⟨.slice A6 l6.length c6, l6⟩⟩, ⟨.slice A7 l7.length c7, l7⟩⟩ : Hp).up))), (47, .v (.bool (cbehB (⟨x0, x1, x2, ⟨.slice A3 l3.length c3, l3⟩, x4, ⟨u0, u1, ⟨.slice A5 l5.length c5, l5⟩⟩, ⟨d0, d1, ⟨.slice A6 l6.length c6, l6⟩⟩, ⟨.slice A7 l7.length c7, l7⟩⟩ : Hp).down))), (52, .v (.bool (cpastB (⟨x0, x1, x2, ⟨.slice A3 l3.length c3, l3⟩, x4, ⟨u0, u1, ⟨.slice A5 l5.length c5, l5⟩⟩, ⟨d0, d1, ⟨.slice A6 l6.length c6, l6⟩⟩, ⟨.slice A7 l7.length c7, l7⟩⟩ : Hp).past.l)))]) (litIn []) 54 Tryz.func65 (by kernel_rfl) (by kernel_rfl) (by simp)
    [.call 36 [.v (.string (⟨x0, x1, x2, ⟨.slice A3 l3.length c3, l3⟩, x4, ⟨u0, u1, ⟨.slice A5 l5.length c5, l5⟩⟩, ⟨d0, d1, ⟨.slice A6 l6.length c6, l6⟩⟩, ⟨.slice A7 l7.length c7, l7⟩⟩ : Hp).target)] (.v (.bool (nmB (⟨x0, x1, x2, ⟨.slice A3 l3.length c3, l3⟩, x4, ⟨u0, u1, ⟨.slice A5 l5.length c5, l5⟩⟩, ⟨d0, d1, ⟨.slice A6 l6.length c6, l6⟩⟩, ⟨.slice A7 l7.length c7, l7⟩⟩ : Hp).target))), .call 82 [.v (.int .i64 ((⟨x0, x1, x2, ⟨.slice A3 l3.length c3, l3⟩, x4, ⟨u0, u1, ⟨.slice A5 l5.length c5, l5⟩⟩, ⟨d0, d1, ⟨.slice A6 l6.length c6, l6⟩⟩, ⟨.slice A7 l7.length c7, l7⟩⟩ : Hp).metrics.l.length)), .v (.int .i64 (1)), .v (.int .i64 (4))] (.v (.bool (betB ((⟨x0, x1, x2, ⟨.slice A3 l3.length c3, l3⟩, x4, ⟨u0, u1, ⟨.slice A5 l5.length c5, l5⟩⟩, ⟨d0, d1, ⟨.slice A6 l6.length c6, l6⟩⟩, ⟨.slice A7 l7.length c7, l7⟩⟩ : Hp).metrics.l.length) (1) (4)))), .call 88 [.v ((⟨x0, x1, x2, ⟨.slice A3 l3.length c3, l3⟩, x4, ⟨u0, u1, ⟨.slice A5 l5.length c5, l5⟩⟩, ⟨d0, d1, ⟨.slice A6 l6.length c6, l6⟩⟩, ⟨.slice A7 l7.length c7, l7⟩⟩ : Hp).metrics.v), .v (.func (.func 89) #[] #[])] (.v (.bool (allMet (⟨x0, x1, x2, ⟨.slice A3 l3.length c3, l3⟩, x4, ⟨u0, u1, ⟨.slice A5 l5.length c5, l5⟩⟩, ⟨d0, d1, ⟨.slice A6 l6.length c6, l6⟩⟩, ⟨.slice A7 l7.length c7, l7⟩⟩ : Hp).metrics.l))), .call 82 [.v (.int .i64 ((⟨x0, x1, x2, ⟨.slice A3 l3.length c3, l3⟩, x4, ⟨u0, u1, ⟨.slice A5 l5.length c5, l5⟩⟩, ⟨d0, d1, ⟨.slice A6 l6.length c6, l6⟩⟩, ⟨.slice A7 l7.length c7, l7⟩⟩ : Hp).tolerance)), .v (.int .i64 (0)), .v (.int .i64 (1000))] (.v (.bool (betB ((⟨x0, x1, x2, ⟨.slice A3 l3.length c3, l3⟩, x4, ⟨u0, u1, ⟨.slice A5 l5.length c5, l5⟩⟩, ⟨d0, d1, ⟨.slice A6 l6.length c6, l6⟩⟩, ⟨.slice A7 l7.length c7, l7⟩⟩ : Hp).tolerance) (0) (1000)))), .call 90 [.v (.agg (⟨x0, x1, x2, ⟨.slice A3 l3.length c3, l3⟩, x4, ⟨u0, u1, ⟨.slice A5 l5.length c5, l5⟩⟩, ⟨d0, d1, ⟨.slice A6 l6.length c6, l6⟩⟩, ⟨.slice A7 l7.length c7, l7⟩⟩ : Hp).up.cells.toArray)] (.v (.bool (cbehB (⟨x0, x1, x2, ⟨.slice A3 l3.length c3, l3⟩, x4, ⟨u0, u1, ⟨.slice A5 l5.length c5, l5⟩⟩, ⟨d0, d1, ⟨.slice A6 l6.length c6, l6⟩⟩, ⟨.slice A7 l7.length c7, l7⟩⟩ : Hp).up))), .call 90 [.v (.agg (⟨x0, x1, x2, ⟨.slice A3 l3.length c3, l3⟩, x4, ⟨u0, u1, ⟨.slice A5 l5.length c5, l5⟩⟩, ⟨d0, d1, ⟨.slice A6 l6.length c6, l6⟩⟩, ⟨.slice A7 l7.length c7, l7⟩⟩ : Hp).down.cells.toArray)] (.v (.bool (cbehB (⟨x0, x1, x2, ⟨.slice A3 l3.length c3, l3⟩, x4, ⟨u0, u1, ⟨.slice A5 l5.length c5, l5⟩⟩, ⟨d0, d1, ⟨.slice A6 l6.length c6, l6⟩⟩, ⟨.slice A7 l7.length c7, l7⟩⟩ : Hp).down))), .call 91 [.v ((⟨x0, x1, x2, ⟨.slice A3 l3.length c3, l3⟩, x4, ⟨u0, u1, ⟨.slice A5 l5.length c5, l5⟩⟩, ⟨d0, d1, ⟨.slice A6 l6.length c6, l6⟩⟩, ⟨.slice A7 l7.length c7, l7⟩⟩ : Hp).past.v)] (.v (.bool (cpastB (⟨x0, x1, x2, ⟨.slice A3 l3.length c3, l3⟩, x4, ⟨u0, u1, ⟨.slice A5 l5.length c5, l5⟩⟩, ⟨d0, d1, ⟨.slice A6 l6.length c6, l6⟩⟩, ⟨.slice A7 l7.length c7, l7⟩⟩ : Hp).past.l)))] [] [.v (.bool (chpaB (⟨x0, x1, x2, ⟨.slice A3 l3.length c3, l3⟩, x4, ⟨u0, u1, ⟨.slice A5 l5.length c5, l5⟩⟩, ⟨d0, d1, ⟨.slice A6 l6.length c6, l6⟩⟩, ⟨.slice A7 l7.length c7, l7⟩⟩ : Hp)))] (by kernel_rfl) (fun p hp => by cases hp) ?_ (fun ρ w' hb => ⟨rfl, hb⟩)
  exact paid2_cons (fun ρ _ w1 hb => (lname_any _ w1 (wfs_max hx.target)).mono fun e w' ⟨h1, h2⟩ => ⟨h1, h2 ▸ Below.refl _ _⟩) (paid2_cons (fun ρ _ w1 hb => between_int _ _ _ w1) (paid2_cons (fun ρ _ w1 hb => vall_met _ w1 (hx.metrics.below hb)) (paid2_cons (fun ρ _ w1 hb => between_int _ _ _ w1) (paid2_cons (fun ρ _ w1 hb => vbehavior_any _ w1 (hx.up.below hb)) (paid2_cons (fun ρ _ w1 hb => vbehavior_any _ w1 (hx.down.below hb)) (paid2_cons (fun ρ _ w1 hb => vpast_any _ w1 (hx.past.below hb)) (paid2_nil)))))))
end Go.Proofs.YtcbnmoghjhljbaaGreat
end
section
namespace Go.Proofs.YtcbnmoghjhljbaaGreat
open Go.RowKit Go.Proofs.Mem
set_option linter.unusedVariables false
set_option linter.unusedSimpArgs false
theorem res_bool {ρ : Nat → Nat × Nat} (b : Bool) : resVal ρ [.v (pickV b (.bool true) (.bool false))] = .bool b := by cases b <;> rfl
def cnoL (a b : Int) (n : Nat) : Bool := ((a == 0) && (b == 0)) && ((n : Int) == 0)
def ceH (ta : ByteArray) (mi ma : Int) (n1 n2 : Nat) (to : Int) (u d : Bool) : Bool := (((((strE ta && (mi == 0)) && (ma == 0)) && (addI n1 n2 == 0)) && (to == 0)) && u) && d
def eAt (e0 e1 e2 e3 e4 : Bool) : Nat → Bool
  | 0 => e0
  | 1 => e1
  | 2 => e2
  | 3 => e3
  | _ => e4
def emOk (kind : Int) (e : Nat → Bool) : Bool := decide (∀ k : Nat, k < 5 → ((((k : Int) != kind)) && !(e k)) = false)
theorem emOk_no {kind : Int} {e : Nat → Bool} (k : Nat) (h : k < 5) (hb : ((((k : Int) != kind)) && !(e k)) = true) : emOk kind e = false := decide_eq_false fun hh => by rw [hh k h] at hb; cases hb
def emHyp (P : Program) (agg : BinOp → TypeId → Array Value → Array Value → Option Value) (w : World) (u d ok : Bool) (B : List Blk) : Hyp :=
  ⟨⟨P, [], agg, callTab [(188, .v (.bool u)), (193, .v (.bool d))], 212, litIn []⟩, w, fun _ => True, 0, [], fun id => match Nat.beq id 0 with
    | true => some fun _ => .br ok (.done .normal ⟨[], B⟩) (.done .ret ⟨mkF [2] [.v (.bool false)], B⟩)
    | false => none, litIn [199], fun _ => none⟩
def cemptyB (o : Ob) : Bool := emOk o.kind (eAt (emW o.w.replicas o.w.cpu o.w.mem o.w.labels.l.length o.w.select.l.length o.w.tolerate.l.length o.w.warm)
  (emP o.p.owner o.p.node o.p.phase o.p.since o.p.cpu o.p.mem o.p.labels.l.length o.p.select.l.length o.p.tolerate.l.length o.p.warm)
  (emN o.n.group o.n.cpu o.n.mem o.n.labels.l.length o.n.taints.l.length o.n.since o.n.closed)
  (emG o.g.min o.g.max o.g.target o.g.cpu o.g.mem o.g.labels.l.length o.g.taints.l.length o.g.priority)
  (ceH o.h.target o.h.min o.h.max o.h.metrics.l.length o.h.past.l.length o.h.tolerance (cnoL o.h.up.window o.h.up.pick o.h.up.policies.l.length) (cnoL o.h.down.window o.h.down.pick o.h.down.policies.l.length)))
set_option maxRecDepth 100000 in
theorem emloop (w : World) (kind : Int) (u d e0 e1 e2 e3 e4 : Bool) (cs : List Value) (B1 B2 B3 B4 B5 B6 : Blk) (h0 : cs[0]? = some (.int .i64 kind)) :
    LoopSpec (emHyp Tryz.prog aggR w u d (emOk kind (eAt e0 e1 e2 e3 e4)) [⟨true, 56, cs⟩, B1, B2, B3, B4, B5, B6, ⟨true, 4, [.bool e0, .bool e1, .bool e2, .bool e3, .bool e4]⟩]) (fun _ => [198, 196, 197, 1, 2]) (0, .loop (loopBody Tryz.f66 0), [some (.v (.int .i64 0)), some (.s 7 0 5 5), some (.v (.int .i64 5)), some (.p 0 0), some (.v (.bool false))], [⟨true, 56, cs⟩, B1, B2, B3, B4, B5, B6, ⟨true, 4, [.bool e0, .bool e1, .bool e2, .bool e3, .bool e4]⟩]) := by
  obtain ⟨cs', rfl⟩ : ∃ cs', cs = .int .i64 kind :: cs' := by
    cases cs with
    | nil => cases h0
    | cons x r => simp only [List.getElem?_cons_zero, Option.some.injEq] at h0; exact ⟨r, by rw [h0]⟩
  refine px_loop (H := emHyp Tryz.prog aggR w u d (emOk kind (eAt e0 e1 e2 e3 e4)) [⟨true, 56, .int .i64 kind :: cs'⟩, B1, B2, B3, B4, B5, B6, ⟨true, 4, [.bool e0, .bool e1, .bool e2, .bool e3, .bool e4]⟩]) (K := .i64) aggR_ok (fun _ _ _ _ h => h) (by kernel_rfl) rfl (fun _ => [198, 196, 197, 1, 2]) (kx := []) (kr := [2]) rfl 5 8 (fun k => ∀ i : Nat, i < 5 → i < k → ((((i : Int) != kind)) && !(eAt e0 e1 e2 e3 e4 i)) = false) (fun i h hi => absurd hi (Nat.not_lt_zero _)) (fun _ => [.s 7 0 5 5, .v (.int .i64 5), .p 0 0, .v (.bool false)])
    (fun _ => [⟨true, 56, .int .i64 kind :: cs'⟩, B1, B2, B3, B4, B5, B6, ⟨true, 4, [.bool e0, .bool e1, .bool e2, .bool e3, .bool e4]⟩]) (fun _ => none) (fun _ => callTab []) (fun _ => litIn []) (fun _ _ => none)
    (fun _ _ => rfl) (fun _ _ => rfl) (fun k x hx => by cases hx) (Nat.zero_le _) ?_
  intro k hk hJ
  have fin : ∀ k : Nat, k < 5 → (∀ i : Nat, i < 5 → i < k → ((((i : Int) != kind)) && !(eAt e0 e1 e2 e3 e4 i)) = false) → ((((k : Int) != kind)) && !(eAt e0 e1 e2 e3 e4 k)) = false → ∀ i : Nat, i < 5 → i < k + 1 → ((((i : Int) != kind)) && !(eAt e0 e1 e2 e3 e4 i)) = false := by
    intro k _ hJ hb i h hi
    rcases Nat.lt_or_eq_of_le (Nat.le_of_lt_succ hi) with h1 | h1
    · exact hJ i h h1
    · subst h1; exact hb
  rcases k with _ | _ | _ | _ | _ | _ | k
  · refine ⟨.br ((((0 : Nat) : Int) != kind) && !e0) (.ret [some (.v (.bool false))] [⟨true, 56, .int .i64 kind :: cs'⟩, B1, B2, B3, B4, B5, B6, ⟨true, 4, [.bool e0, .bool e1, .bool e2, .bool e3, .bool e4]⟩]) (.norm [some (.v (.int .i64 (IntKind.i64.wrap (((0 : Nat) : Int) + 1)))), some (.s 7 0 5 5), some (.v (.int .i64 5)), some (.p 0 0), some (.v (.bool false))] [⟨true, 56, .int .i64 kind :: cs'⟩, B1, B2, B3, B4, B5, B6, ⟨true, 4, [.bool e0, .bool e1, .bool e2, .bool e3, .bool e4]⟩]), ⟨[], [], []⟩, by kernel_rfl, ⟨fun x hx => (by cases hx), fun x hx => (by cases hx), fun x hx => (by cases hx)⟩,
      ⟨fun hb => ⟨[.v (.bool false)], rfl, rfl, fun Q hQ => hQ.2 (emOk_no 0 (by decide) hb)⟩, fun hb => ⟨by decide, fin 0 (by decide) hJ hb, by rw [wrap_add 0 (by decide)]; rfl, rfl⟩⟩⟩
  · refine ⟨.br ((((1 : Nat) : Int) != kind) && !e1) (.ret [some (.v (.bool false))] [⟨true, 56, .int .i64 kind :: cs'⟩, B1, B2, B3, B4, B5, B6, ⟨true, 4, [.bool e0, .bool e1, .bool e2, .bool e3, .bool e4]⟩]) (.norm [some (.v (.int .i64 (IntKind.i64.wrap (((1 : Nat) : Int) + 1)))), some (.s 7 0 5 5), some (.v (.int .i64 5)), some (.p 0 0), some (.v (.bool false))] [⟨true, 56, .int .i64 kind :: cs'⟩, B1, B2, B3, B4, B5, B6, ⟨true, 4, [.bool e0, .bool e1, .bool e2, .bool e3, .bool e4]⟩]), ⟨[], [], []⟩, by kernel_rfl, ⟨fun x hx => (by cases hx), fun x hx => (by cases hx), fun x hx => (by cases hx)⟩,
      ⟨fun hb => ⟨[.v (.bool false)], rfl, rfl, fun Q hQ => hQ.2 (emOk_no 1 (by decide) hb)⟩, fun hb => ⟨by decide, fin 1 (by decide) hJ hb, by rw [wrap_add 1 (by decide)]; rfl, rfl⟩⟩⟩
  · refine ⟨.br ((((2 : Nat) : Int) != kind) && !e2) (.ret [some (.v (.bool false))] [⟨true, 56, .int .i64 kind :: cs'⟩, B1, B2, B3, B4, B5, B6, ⟨true, 4, [.bool e0, .bool e1, .bool e2, .bool e3, .bool e4]⟩]) (.norm [some (.v (.int .i64 (IntKind.i64.wrap (((2 : Nat) : Int) + 1)))), some (.s 7 0 5 5), some (.v (.int .i64 5)), some (.p 0 0), some (.v (.bool false))] [⟨true, 56, .int .i64 kind :: cs'⟩, B1, B2, B3, B4, B5, B6, ⟨true, 4, [.bool e0, .bool e1, .bool e2, .bool e3, .bool e4]⟩]), ⟨[], [], []⟩, by kernel_rfl, ⟨fun x hx => (by cases hx), fun x hx => (by cases hx), fun x hx => (by cases hx)⟩,
      ⟨fun hb => ⟨[.v (.bool false)], rfl, rfl, fun Q hQ => hQ.2 (emOk_no 2 (by decide) hb)⟩, fun hb => ⟨by decide, fin 2 (by decide) hJ hb, by rw [wrap_add 2 (by decide)]; rfl, rfl⟩⟩⟩
  · refine ⟨.br ((((3 : Nat) : Int) != kind) && !e3) (.ret [some (.v (.bool false))] [⟨true, 56, .int .i64 kind :: cs'⟩, B1, B2, B3, B4, B5, B6, ⟨true, 4, [.bool e0, .bool e1, .bool e2, .bool e3, .bool e4]⟩]) (.norm [some (.v (.int .i64 (IntKind.i64.wrap (((3 : Nat) : Int) + 1)))), some (.s 7 0 5 5), some (.v (.int .i64 5)), some (.p 0 0), some (.v (.bool false))] [⟨true, 56, .int .i64 kind :: cs'⟩, B1, B2, B3, B4, B5, B6, ⟨true, 4, [.bool e0, .bool e1, .bool e2, .bool e3, .bool e4]⟩]), ⟨[], [], []⟩, by kernel_rfl, ⟨fun x hx => (by cases hx), fun x hx => (by cases hx), fun x hx => (by cases hx)⟩,
      ⟨fun hb => ⟨[.v (.bool false)], rfl, rfl, fun Q hQ => hQ.2 (emOk_no 3 (by decide) hb)⟩, fun hb => ⟨by decide, fin 3 (by decide) hJ hb, by rw [wrap_add 3 (by decide)]; rfl, rfl⟩⟩⟩
  · refine ⟨.br ((((4 : Nat) : Int) != kind) && !e4) (.ret [some (.v (.bool false))] [⟨true, 56, .int .i64 kind :: cs'⟩, B1, B2, B3, B4, B5, B6, ⟨true, 4, [.bool e0, .bool e1, .bool e2, .bool e3, .bool e4]⟩]) (.norm [some (.v (.int .i64 (IntKind.i64.wrap (((4 : Nat) : Int) + 1)))), some (.s 7 0 5 5), some (.v (.int .i64 5)), some (.p 0 0), some (.v (.bool false))] [⟨true, 56, .int .i64 kind :: cs'⟩, B1, B2, B3, B4, B5, B6, ⟨true, 4, [.bool e0, .bool e1, .bool e2, .bool e3, .bool e4]⟩]), ⟨[], [], []⟩, by kernel_rfl, ⟨fun x hx => (by cases hx), fun x hx => (by cases hx), fun x hx => (by cases hx)⟩,
      ⟨fun hb => ⟨[.v (.bool false)], rfl, rfl, fun Q hQ => hQ.2 (emOk_no 4 (by decide) hb)⟩, fun hb => ⟨by decide, fin 4 (by decide) hJ hb, by rw [wrap_add 4 (by decide)]; rfl, rfl⟩⟩⟩
  · refine ⟨.exit [] [⟨true, 56, .int .i64 kind :: cs'⟩, B1, B2, B3, B4, B5, B6, ⟨true, 4, [.bool e0, .bool e1, .bool e2, .bool e3, .bool e4]⟩], ⟨[], [], []⟩, by kernel_rfl, ⟨fun x hx => (by cases hx), fun x hx => (by cases hx), fun x hx => (by cases hx)⟩, [], rfl, rfl, fun Q hQ => ?_⟩
    exact hQ.1 (decide_eq_true fun i h => hJ i h h)
  · omega
structure ObSub (o : Ob) (W : World) : Prop where
  w : o.w.Ok W
  p : o.p.Ok W
  n : o.n.Ok W
  g : o.g.Ok W
  h : o.h.Ok W
set_option maxHeartbeats 4000000 in
set_option maxRecDepth 100000 in
theorem vempties_sub (o : Ob) (w : World) (ho : ObSub o w) : Calls Tryz.prog 66 #[.agg o.cells.toArray] w fun e w' => e = .returned (.bool (cemptyB o)) ∧ Below w.heap.size w w' := by
  obtain ⟨kind, name, version, ⟨w0, w1, w2, ⟨vw3, lw3⟩, ⟨vw4, lw4⟩, ⟨vw5, lw5⟩, w6⟩, ⟨p0, p1, p2, p3, p4, p5, ⟨vp6, lp6⟩, ⟨vp7, lp7⟩, ⟨vp8, lp8⟩, p9⟩, ⟨n0, n1, n2, ⟨vn3, ln3⟩, ⟨vn4, ln4⟩, n5, n6⟩, ⟨g0, g1, g2, g3, g4, ⟨vg5, lg5⟩, ⟨vg6, lg6⟩, g7⟩, ⟨h0, h1, h2, ⟨vh3, lh3⟩, h4, ⟨h5, h6, ⟨vh7, lh7⟩⟩, ⟨h8, h9, ⟨vh10, lh10⟩⟩, ⟨vh11, lh11⟩⟩⟩ := o
  obtain ⟨Aw3, cw3, rfl⟩ : ∃ A c, vw3 = .slice A lw3.length c := by obtain ⟨A, c, e, _⟩ := ho.w.labels.1; exact ⟨A, c, e⟩
  obtain ⟨Aw4, cw4, rfl⟩ : ∃ A c, vw4 = .slice A lw4.length c := by obtain ⟨A, c, e, _⟩ := ho.w.select.1; exact ⟨A, c, e⟩
  obtain ⟨Aw5, cw5, rfl⟩ : ∃ A c, vw5 = .slice A lw5.length c := by obtain ⟨A, c, e, _⟩ := ho.w.tolerate.1; exact ⟨A, c, e⟩
  obtain ⟨Ap6, cp6, rfl⟩ : ∃ A c, vp6 = .slice A lp6.length c := by obtain ⟨A, c, e, _⟩ := ho.p.labels.1; exact ⟨A, c, e⟩
  obtain ⟨Ap7, cp7, rfl⟩ : ∃ A c, vp7 = .slice A lp7.length c := by obtain ⟨A, c, e, _⟩ := ho.p.select.1; exact ⟨A, c, e⟩
  obtain ⟨Ap8, cp8, rfl⟩ : ∃ A c, vp8 = .slice A lp8.length c := by obtain ⟨A, c, e, _⟩ := ho.p.tolerate.1; exact ⟨A, c, e⟩
  obtain ⟨An3, cn3, rfl⟩ : ∃ A c, vn3 = .slice A ln3.length c := by obtain ⟨A, c, e, _⟩ := ho.n.labels.1; exact ⟨A, c, e⟩
  obtain ⟨An4, cn4, rfl⟩ : ∃ A c, vn4 = .slice A ln4.length c := by obtain ⟨A, c, e, _⟩ := ho.n.taints.1; exact ⟨A, c, e⟩
  obtain ⟨Ag5, cg5, rfl⟩ : ∃ A c, vg5 = .slice A lg5.length c := by obtain ⟨A, c, e, _⟩ := ho.g.labels.1; exact ⟨A, c, e⟩
  obtain ⟨Ag6, cg6, rfl⟩ : ∃ A c, vg6 = .slice A lg6.length c := by obtain ⟨A, c, e, _⟩ := ho.g.taints.1; exact ⟨A, c, e⟩
  obtain ⟨Ah3, ch3, rfl⟩ : ∃ A c, vh3 = .slice A lh3.length c := by obtain ⟨A, c, e, _⟩ := ho.h.metrics.1; exact ⟨A, c, e⟩
  obtain ⟨Ah7, ch7, rfl⟩ : ∃ A c, vh7 = .slice A lh7.length c := by obtain ⟨A, c, e, _⟩ := ho.h.up.policies.1; exact ⟨A, c, e⟩
  obtain ⟨Ah10, ch10, rfl⟩ : ∃ A c, vh10 = .slice A lh10.length c := by obtain ⟨A, c, e, _⟩ := ho.h.down.policies.1; exact ⟨A, c, e⟩
  obtain ⟨Ah11, ch11, rfl⟩ : ∃ A c, vh11 = .slice A lh11.length c := by obtain ⟨A, c, e, _⟩ := ho.h.past.1; exact ⟨A, c, e⟩
  refine px_calls (f := 66) (fn := Tryz.f66) (args := [.v (.agg (Ob.mk kind name version (⟨w0, w1, w2, ⟨.slice Aw3 lw3.length cw3, lw3⟩, ⟨.slice Aw4 lw4.length cw4, lw4⟩, ⟨.slice Aw5 lw5.length cw5, lw5⟩, w6⟩ : Wl) (⟨p0, p1, p2, p3, p4, p5, ⟨.slice Ap6 lp6.length cp6, lp6⟩, ⟨.slice Ap7 lp7.length cp7, lp7⟩, ⟨.slice Ap8 lp8.length cp8, lp8⟩, p9⟩ : Pd) (⟨n0, n1, n2, ⟨.slice An3 ln3.length cn3, ln3⟩, ⟨.slice An4 ln4.length cn4, ln4⟩, n5, n6⟩ : Nd) (⟨g0, g1, g2, g3, g4, ⟨.slice Ag5 lg5.length cg5, lg5⟩, ⟨.slice Ag6 lg6.length cg6, lg6⟩, g7⟩ : Gr) (⟨h0, h1, h2, ⟨.slice Ah3 lh3.length ch3, lh3⟩, h4, ⟨h5, h6, ⟨.slice Ah7 lh7.length ch7, lh7⟩⟩, ⟨h8, h9, ⟨.slice Ah10 lh10.length ch10, lh10⟩⟩, ⟨.slice Ah11 lh11.length ch11, lh11⟩⟩ : Hp)).cells.toArray)]) (B := []) (ρ0 := fun _ => (0, 0)) (H := emHyp Tryz.prog aggR w (cnoL h5 h6 lh7.length) (cnoL h8 h9 lh10.length) (emOk kind (eAt (emW w0 w1 w2 lw3.length lw4.length lw5.length w6) (emP p0 p1 p2 p3 p4 p5 lp6.length lp7.length lp8.length p9) (emN n0 n1 n2 ln3.length ln4.length n5 n6) (emG g0 g1 g2 g3 g4 lg5.length lg6.length g7) (ceH h0 h1 h2 lh3.length lh11.length h4 (cnoL h5 h6 lh7.length) (cnoL h8 h9 lh10.length)))) [⟨true, 56, [.int .i64 kind, .string name, .int .u64 version, .int .i64 w0, .int .i64 w1, .int .i64 w2, .slice Aw3 lw3.length cw3, .slice Aw4 lw4.length cw4, .slice Aw5 lw5.length cw5, .int .i64 w6, .string p0, .string p1, .int .i64 p2, .int .i64 p3, .int .i64 p4, .int .i64 p5, .slice Ap6 lp6.length cp6, .slice Ap7 lp7.length cp7, .slice Ap8 lp8.length cp8, .int .i64 p9, .string n0, .int .i64 n1, .int .i64 n2, .slice An3 ln3.length cn3, .slice An4 ln4.length cn4, .int .i64 n5, .bool n6, .int .i64 g0, .int .i64 g1, .int .i64 g2, .int .i64 g3, .int .i64 g4, .slice Ag5 lg5.length cg5, .slice Ag6 lg6.length cg6, .int .i64 g7, .string h0, .int .i64 h1, .int .i64 h2, .slice Ah3 lh3.length ch3, .int .i64 h4, .int .i64 h5, .int .i64 h6, .slice Ah7 lh7.length ch7, .int .i64 h8, .int .i64 h9, .slice Ah10 lh10.length ch10, .slice Ah11 lh11.length ch11]⟩, ⟨true, 54, [.string h0, .int .i64 h1, .int .i64 h2, .slice Ah3 lh3.length ch3, .int .i64 h4, .int .i64 h5, .int .i64 h6, .slice Ah7 lh7.length ch7, .int .i64 h8, .int .i64 h9, .slice Ah10 lh10.length ch10, .slice Ah11 lh11.length ch11]⟩, ⟨true, 47, [.int .i64 g0, .int .i64 g1, .int .i64 g2, .int .i64 g3, .int .i64 g4, .slice Ag5 lg5.length cg5, .slice Ag6 lg6.length cg6, .int .i64 g7]⟩, ⟨true, 45, [.string n0, .int .i64 n1, .int .i64 n2, .slice An3 ln3.length cn3, .slice An4 ln4.length cn4, .int .i64 n5, .bool n6]⟩, ⟨true, 43, [.string p0, .string p1, .int .i64 p2, .int .i64 p3, .int .i64 p4, .int .i64 p5, .slice Ap6 lp6.length cp6, .slice Ap7 lp7.length cp7, .slice Ap8 lp8.length cp8, .int .i64 p9]⟩, ⟨true, 41, [.int .i64 w0, .int .i64 w1, .int .i64 w2, .slice Aw3 lw3.length cw3, .slice Aw4 lw4.length cw4, .slice Aw5 lw5.length cw5, .int .i64 w6]⟩, ⟨true, 37, [.int .i64 0, .int .i64 0]⟩, ⟨true, 4, [ .bool (emW w0 w1 w2 lw3.length lw4.length lw5.length w6),  .bool (emP p0 p1 p2 p3 p4 p5 lp6.length lp7.length lp8.length p9), .bool (emN n0 n1 n2 ln3.length ln4.length n5 n6), .bool (emG g0 g1 g2 g3 g4 lg5.length lg6.length g7), .bool (ceH h0 h1 h2 lh3.length lh11.length h4 (cnoL h5 h6 lh7.length) (cnoL h8 h9 lh10.length))]⟩]) aggR_ok (fun _ _ _ _ h => h) (by kernel_rfl) Tryz.func66 rfl (by kernel_rfl) (by show (1 : Nat) ≤ 212; decide) rfl (by simp [SV.lt]) trivial (Nat.le_refl _) (fun i b hb => by simp at hb) (fun _ => [198, 196, 197, 1, 2])
    ⟨[.call 92 [.v (.agg #[.int .i64 h5, .int .i64 h6, .slice Ah7 lh7.length ch7])] (.v (.bool (cnoL h5 h6 lh7.length))), .call 92 [.v (.agg #[.int .i64 h8, .int .i64 h9, .slice Ah10 lh10.length ch10])] (.v (.bool (cnoL h8 h9 lh10.length)))],
      [(0, .loop (loopBody Tryz.f66 0), [some (.v (.int .i64 0)), some (.s 7 0 5 5), some (.v (.int .i64 5)), some (.p 0 0), some (.v (.bool false))], [⟨true, 56, [.int .i64 kind, .string name, .int .u64 version, .int .i64 w0, .int .i64 w1, .int .i64 w2, .slice Aw3 lw3.length cw3, .slice Aw4 lw4.length cw4, .slice Aw5 lw5.length cw5, .int .i64 w6, .string p0, .string p1, .int .i64 p2, .int .i64 p3, .int .i64 p4, .int .i64 p5, .slice Ap6 lp6.length cp6, .slice Ap7 lp7.length cp7, .slice Ap8 lp8.length cp8, .int .i64 p9, .string n0, .int .i64 n1, .int .i64 n2, .slice An3 ln3.length cn3, .slice An4 ln4.length cn4, .int .i64 n5, .bool n6, .int .i64 g0, .int .i64 g1, .int .i64 g2, .int .i64 g3, .int .i64 g4, .slice Ag5 lg5.length cg5, .slice Ag6 lg6.length cg6, .int .i64 g7, .string h0, .int .i64 h1, .int .i64 h2, .slice Ah3 lh3.length ch3, .int .i64 h4, .int .i64 h5, .int .i64 h6, .slice Ah7 lh7.length ch7, .int .i64 h8, .int .i64 h9, .slice Ah10 lh10.length ch10, .slice Ah11 lh11.length ch11]⟩, ⟨true, 54, [.string h0, .int .i64 h1, .int .i64 h2, .slice Ah3 lh3.length ch3, .int .i64 h4, .int .i64 h5, .int .i64 h6, .slice Ah7 lh7.length ch7, .int .i64 h8, .int .i64 h9, .slice Ah10 lh10.length ch10, .slice Ah11 lh11.length ch11]⟩, ⟨true, 47, [.int .i64 g0, .int .i64 g1, .int .i64 g2, .int .i64 g3, .int .i64 g4, .slice Ag5 lg5.length cg5, .slice Ag6 lg6.length cg6, .int .i64 g7]⟩, ⟨true, 45, [.string n0, .int .i64 n1, .int .i64 n2, .slice An3 ln3.length cn3, .slice An4 ln4.length cn4, .int .i64 n5, .bool n6]⟩, ⟨true, 43, [.string p0, .string p1, .int .i64 p2, .int .i64 p3, .int .i64 p4, .int .i64 p5, .slice Ap6 lp6.length cp6, .slice Ap7 lp7.length cp7, .slice Ap8 lp8.length cp8, .int .i64 p9]⟩, ⟨true, 41, [.int .i64 w0, .int .i64 w1, .int .i64 w2, .slice Aw3 lw3.length cw3, .slice Aw4 lw4.length cw4, .slice Aw5 lw5.length cw5, .int .i64 w6]⟩, ⟨true, 37, [.int .i64 0, .int .i64 0]⟩, ⟨true, 4, [ .bool (emW w0 w1 w2 lw3.length lw4.length lw5.length w6),  .bool (emP p0 p1 p2 p3 p4 p5 lp6.length lp7.length lp8.length p9), .bool (emN n0 n1 n2 ln3.length ln4.length n5 n6), .bool (emG g0 g1 g2 g3 g4 lg5.length lg6.length g7), .bool (ceH h0 h1 h2 lh3.length lh11.length h4 (cnoL h5 h6 lh7.length) (cnoL h8 h9 lh10.length))]⟩])], []⟩ [.v (pickV (emOk kind (eAt (emW w0 w1 w2 lw3.length lw4.length lw5.length w6) (emP p0 p1 p2 p3 p4 p5 lp6.length lp7.length lp8.length p9) (emN n0 n1 n2 ln3.length ln4.length n5 n6) (emG g0 g1 g2 g3 g4 lg5.length lg6.length g7) (ceH h0 h1 h2 lh3.length lh11.length h4 (cnoL h5 h6 lh7.length) (cnoL h8 h9 lh10.length)))) (.bool true) (.bool false))] (by kernel_rfl) ⟨?_, fun q hq => ?_, fun p hp => (by cases hp)⟩ (fun ρ w' _ hb => ⟨?_, hb⟩)
  · exact paid2_cons (fun ρ _ w1 hb => vnothing_any ⟨h5, h6, ⟨.slice Ah7 lh7.length ch7, lh7⟩⟩ w1 (ho.h.up.below hb)) (paid2_cons (fun ρ _ w1 hb => vnothing_any ⟨h8, h9, ⟨.slice Ah10 lh10.length ch10, lh10⟩⟩ w1 (ho.h.down.below hb)) paid2_nil)
  · rw [List.mem_singleton.1 hq]
    exact emloop w kind _ _ _ _ _ _ _ _ _ _ _ _ _ _ rfl
  · rw [res_bool]
    rfl
theorem vempties_any (o : Ob) (w : World) (ho : o.Ok w) : Calls Tryz.prog 66 #[.agg o.cells.toArray] w fun e w' => e = .returned (.bool (cemptyB o)) ∧ Below w.heap.size w w' := vempties_sub o w ⟨ho.w, ho.p, ho.n, ho.g, ho.h⟩
end Go.Proofs.YtcbnmoghjhljbaaGreat
end
section
namespace Go.Proofs.YtcbnmoghjhljbaaGreat
open Go.RowKit Go.Proofs.Mem
set_option linter.unusedVariables false
set_option linter.unusedSimpArgs false
def ckV (nm may em : Bool) : Value := pickV (!nm) (.int .i64 6) (pickV (!may || !em) (.int .i64 2) (.int .i64 0))
theorem ck_res {ρ : Nat → Nat × Nat} (name : ByteArray) (may em : Bool) : resVal ρ [.v (ckV (nmB name) may em)] = .int .i64 (errN name (may && em)) := by
  show (SV.v (ckV _ may em)).den ρ = _
  unfold ckV errN SV.den
  rw [pickV_eq, pickV_eq]
  cases nmB name <;> cases may <;> cases em <;> rfl
def cpodB (x : Pd) : Bool := !(cpod1 x) && cpod2 x
set_option maxRecDepth 100000 in
theorem vcheck_0 (o : Ob) (w : World) (ho : o.Ok w) (hk : o.kind = 0) : Calls Tryz.prog 41 #[.agg o.cells.toArray] w fun e w' => e = .returned (.int .i64 (errN o.name (cworkB o.w && cemptyB o))) ∧ Below w.heap.size w w' := by
  obtain ⟨kind, name, version, ⟨w0, w1, w2, ⟨vw3, lw3⟩, ⟨vw4, lw4⟩, ⟨vw5, lw5⟩, w6⟩, ⟨p0, p1, p2, p3, p4, p5, ⟨vp6, lp6⟩, ⟨vp7, lp7⟩, ⟨vp8, lp8⟩, p9⟩, ⟨n0, n1, n2, ⟨vn3, ln3⟩, ⟨vn4, ln4⟩, n5, n6⟩, ⟨g0, g1, g2, g3, g4, ⟨vg5, lg5⟩, ⟨vg6, lg6⟩, g7⟩, ⟨h0, h1, h2, ⟨vh3, lh3⟩, h4, ⟨h5, h6, ⟨vh7, lh7⟩⟩, ⟨h8, h9, ⟨vh10, lh10⟩⟩, ⟨vh11, lh11⟩⟩⟩ := o
  obtain ⟨Aw3, cw3, rfl⟩ : ∃ A c, vw3 = .slice A lw3.length c := by obtain ⟨A, c, e, _⟩ := ho.w.labels.1; exact ⟨A, c, e⟩
  obtain ⟨Aw4, cw4, rfl⟩ : ∃ A c, vw4 = .slice A lw4.length c := by obtain ⟨A, c, e, _⟩ := ho.w.select.1; exact ⟨A, c, e⟩
  obtain ⟨Aw5, cw5, rfl⟩ : ∃ A c, vw5 = .slice A lw5.length c := by obtain ⟨A, c, e, _⟩ := ho.w.tolerate.1; exact ⟨A, c, e⟩
  obtain ⟨Ap6, cp6, rfl⟩ : ∃ A c, vp6 = .slice A lp6.length c := by obtain ⟨A, c, e, _⟩ := ho.p.labels.1; exact ⟨A, c, e⟩
  obtain ⟨Ap7, cp7, rfl⟩ : ∃ A c, vp7 = .slice A lp7.length c := by obtain ⟨A, c, e, _⟩ := ho.p.select.1; exact ⟨A, c, e⟩
  obtain ⟨Ap8, cp8, rfl⟩ : ∃ A c, vp8 = .slice A lp8.length c := by obtain ⟨A, c, e, _⟩ := ho.p.tolerate.1; exact ⟨A, c, e⟩
  obtain ⟨An3, cn3, rfl⟩ : ∃ A c, vn3 = .slice A ln3.length c := by obtain ⟨A, c, e, _⟩ := ho.n.labels.1; exact ⟨A, c, e⟩
  obtain ⟨An4, cn4, rfl⟩ : ∃ A c, vn4 = .slice A ln4.length c := by obtain ⟨A, c, e, _⟩ := ho.n.taints.1; exact ⟨A, c, e⟩
  obtain ⟨Ag5, cg5, rfl⟩ : ∃ A c, vg5 = .slice A lg5.length c := by obtain ⟨A, c, e, _⟩ := ho.g.labels.1; exact ⟨A, c, e⟩
  obtain ⟨Ag6, cg6, rfl⟩ : ∃ A c, vg6 = .slice A lg6.length c := by obtain ⟨A, c, e, _⟩ := ho.g.taints.1; exact ⟨A, c, e⟩
  obtain ⟨Ah3, ch3, rfl⟩ : ∃ A c, vh3 = .slice A lh3.length c := by obtain ⟨A, c, e, _⟩ := ho.h.metrics.1; exact ⟨A, c, e⟩
  obtain ⟨Ah7, ch7, rfl⟩ : ∃ A c, vh7 = .slice A lh7.length c := by obtain ⟨A, c, e, _⟩ := ho.h.up.policies.1; exact ⟨A, c, e⟩
  obtain ⟨Ah10, ch10, rfl⟩ : ∃ A c, vh10 = .slice A lh10.length c := by obtain ⟨A, c, e, _⟩ := ho.h.down.policies.1; exact ⟨A, c, e⟩
  obtain ⟨Ah11, ch11, rfl⟩ : ∃ A c, vh11 = .slice A lh11.length c := by obtain ⟨A, c, e, _⟩ := ho.h.past.1; exact ⟨A, c, e⟩
  simp only at hk
  subst hk
  refine px_plain (args := [.agg (Ob.mk 0 name version (⟨w0, w1, w2, ⟨.slice Aw3 lw3.length cw3, lw3⟩, ⟨.slice Aw4 lw4.length cw4, lw4⟩, ⟨.slice Aw5 lw5.length cw5, lw5⟩, w6⟩ : Wl) (⟨p0, p1, p2, p3, p4, p5, ⟨.slice Ap6 lp6.length cp6, lp6⟩, ⟨.slice Ap7 lp7.length cp7, lp7⟩, ⟨.slice Ap8 lp8.length cp8, lp8⟩, p9⟩ : Pd) (⟨n0, n1, n2, ⟨.slice An3 ln3.length cn3, ln3⟩, ⟨.slice An4 ln4.length cn4, ln4⟩, n5, n6⟩ : Nd) (⟨g0, g1, g2, g3, g4, ⟨.slice Ag5 lg5.length cg5, lg5⟩, ⟨.slice Ag6 lg6.length cg6, lg6⟩, g7⟩ : Gr) (⟨h0, h1, h2, ⟨.slice Ah3 lh3.length ch3, lh3⟩, h4, ⟨h5, h6, ⟨.slice Ah7 lh7.length ch7, lh7⟩⟩, ⟨h8, h9, ⟨.slice Ah10 lh10.length ch10, lh10⟩⟩, ⟨.slice Ah11 lh11.length ch11, lh11⟩⟩ : Hp)).cells.toArray]) (callTab [(10, .v (.bool (cworkB (⟨w0, w1, w2, ⟨.slice Aw3 lw3.length cw3, lw3⟩, ⟨.slice Aw4 lw4.length cw4, lw4⟩, ⟨.slice Aw5 lw5.length cw5, lw5⟩, w6⟩ : Wl)))), (34, .v (.bool (nmB name))), (41, .v (.bool (cemptyB (Ob.mk 0 name version (⟨w0, w1, w2, ⟨.slice Aw3 lw3.length cw3, lw3⟩, ⟨.slice Aw4 lw4.length cw4, lw4⟩, ⟨.slice Aw5 lw5.length cw5, lw5⟩, w6⟩ : Wl) (⟨p0, p1, p2, p3, p4, p5, ⟨.slice Ap6 lp6.length cp6, lp6⟩, ⟨.slice Ap7 lp7.length cp7, lp7⟩, ⟨.slice Ap8 lp8.length cp8, lp8⟩, p9⟩ : Pd) (⟨n0, n1, n2, ⟨.slice An3 ln3.length cn3, ln3⟩, ⟨.slice An4 ln4.length cn4, ln4⟩, n5, n6⟩ : Nd) (⟨g0, g1, g2, g3, g4, ⟨.slice Ag5 lg5.length cg5, lg5⟩, ⟨.slice Ag6 lg6.length cg6, lg6⟩, g7⟩ : Gr) (⟨h0, h1, h2, ⟨.slice Ah3 lh3.length ch3, lh3⟩, h4, ⟨h5, h6, ⟨.slice Ah7 lh7.length ch7, lh7⟩⟩, ⟨h8, h9, ⟨.slice Ah10 lh10.length ch10, lh10⟩⟩, ⟨.slice Ah11 lh11.length ch11, lh11⟩⟩ : Hp)))))]) (litIn [6, 11, 16, 21, 26]) 44 Tryz.func41 (by kernel_rfl) (by kernel_rfl) (by simp)
    [.call 61 [.v (.agg (⟨w0, w1, w2, ⟨.slice Aw3 lw3.length cw3, lw3⟩, ⟨.slice Aw4 lw4.length cw4, lw4⟩, ⟨.slice Aw5 lw5.length cw5, lw5⟩, w6⟩ : Wl).cells.toArray)] (.v (.bool (cworkB (⟨w0, w1, w2, ⟨.slice Aw3 lw3.length cw3, lw3⟩, ⟨.slice Aw4 lw4.length cw4, lw4⟩, ⟨.slice Aw5 lw5.length cw5, lw5⟩, w6⟩ : Wl)))), .call 36 [.v (.string name)] (.v (.bool (nmB name))), .call 66 [.v (.agg (Ob.mk 0 name version (⟨w0, w1, w2, ⟨.slice Aw3 lw3.length cw3, lw3⟩, ⟨.slice Aw4 lw4.length cw4, lw4⟩, ⟨.slice Aw5 lw5.length cw5, lw5⟩, w6⟩ : Wl) (⟨p0, p1, p2, p3, p4, p5, ⟨.slice Ap6 lp6.length cp6, lp6⟩, ⟨.slice Ap7 lp7.length cp7, lp7⟩, ⟨.slice Ap8 lp8.length cp8, lp8⟩, p9⟩ : Pd) (⟨n0, n1, n2, ⟨.slice An3 ln3.length cn3, ln3⟩, ⟨.slice An4 ln4.length cn4, ln4⟩, n5, n6⟩ : Nd) (⟨g0, g1, g2, g3, g4, ⟨.slice Ag5 lg5.length cg5, lg5⟩, ⟨.slice Ag6 lg6.length cg6, lg6⟩, g7⟩ : Gr) (⟨h0, h1, h2, ⟨.slice Ah3 lh3.length ch3, lh3⟩, h4, ⟨h5, h6, ⟨.slice Ah7 lh7.length ch7, lh7⟩⟩, ⟨h8, h9, ⟨.slice Ah10 lh10.length ch10, lh10⟩⟩, ⟨.slice Ah11 lh11.length ch11, lh11⟩⟩ : Hp)).cells.toArray)] (.v (.bool (cemptyB (Ob.mk 0 name version (⟨w0, w1, w2, ⟨.slice Aw3 lw3.length cw3, lw3⟩, ⟨.slice Aw4 lw4.length cw4, lw4⟩, ⟨.slice Aw5 lw5.length cw5, lw5⟩, w6⟩ : Wl) (⟨p0, p1, p2, p3, p4, p5, ⟨.slice Ap6 lp6.length cp6, lp6⟩, ⟨.slice Ap7 lp7.length cp7, lp7⟩, ⟨.slice Ap8 lp8.length cp8, lp8⟩, p9⟩ : Pd) (⟨n0, n1, n2, ⟨.slice An3 ln3.length cn3, ln3⟩, ⟨.slice An4 ln4.length cn4, ln4⟩, n5, n6⟩ : Nd) (⟨g0, g1, g2, g3, g4, ⟨.slice Ag5 lg5.length cg5, lg5⟩, ⟨.slice Ag6 lg6.length cg6, lg6⟩, g7⟩ : Gr) (⟨h0, h1, h2, ⟨.slice Ah3 lh3.length ch3, lh3⟩, h4, ⟨h5, h6, ⟨.slice Ah7 lh7.length ch7, lh7⟩⟩, ⟨h8, h9, ⟨.slice Ah10 lh10.length ch10, lh10⟩⟩, ⟨.slice Ah11 lh11.length ch11, lh11⟩⟩ : Hp)))))] [] [.v (ckV (nmB name) (cworkB (⟨w0, w1, w2, ⟨.slice Aw3 lw3.length cw3, lw3⟩, ⟨.slice Aw4 lw4.length cw4, lw4⟩, ⟨.slice Aw5 lw5.length cw5, lw5⟩, w6⟩ : Wl)) (cemptyB (Ob.mk 0 name version (⟨w0, w1, w2, ⟨.slice Aw3 lw3.length cw3, lw3⟩, ⟨.slice Aw4 lw4.length cw4, lw4⟩, ⟨.slice Aw5 lw5.length cw5, lw5⟩, w6⟩ : Wl) (⟨p0, p1, p2, p3, p4, p5, ⟨.slice Ap6 lp6.length cp6, lp6⟩, ⟨.slice Ap7 lp7.length cp7, lp7⟩, ⟨.slice Ap8 lp8.length cp8, lp8⟩, p9⟩ : Pd) (⟨n0, n1, n2, ⟨.slice An3 ln3.length cn3, ln3⟩, ⟨.slice An4 ln4.length cn4, ln4⟩, n5, n6⟩ : Nd) (⟨g0, g1, g2, g3, g4, ⟨.slice Ag5 lg5.length cg5, lg5⟩, ⟨.slice Ag6 lg6.length cg6, lg6⟩, g7⟩ : Gr) (⟨h0, h1, h2, ⟨.slice Ah3 lh3.length ch3, lh3⟩, h4, ⟨h5, h6, ⟨.slice Ah7 lh7.length ch7, lh7⟩⟩, ⟨h8, h9, ⟨.slice Ah10 lh10.length ch10, lh10⟩⟩, ⟨.slice Ah11 lh11.length ch11, lh11⟩⟩ : Hp))))] (by kernel_rfl) (fun p hp => by cases hp) ?_ (fun ρ w' hb => ⟨by rw [ck_res], hb⟩)
  exact paid2_cons (fun ρ _ w1 hb => vwork_any _ w1 (ho.w.below hb)) (paid2_cons (fun ρ _ w1 hb => (lname_any _ w1 (wfs_max ho.name)).mono fun e w' ⟨h1, h2⟩ => ⟨h1, h2 ▸ Below.refl _ _⟩) (paid2_cons (fun ρ _ w1 hb => vempties_any _ w1 (ho.below hb)) paid2_nil))
set_option maxRecDepth 100000 in
theorem vcheck_1 (o : Ob) (w : World) (ho : o.Ok w) (hk : o.kind = 1) : Calls Tryz.prog 41 #[.agg o.cells.toArray] w fun e w' => e = .returned (.int .i64 (errN o.name (cpodB o.p && cemptyB o))) ∧ Below w.heap.size w w' := by
  obtain ⟨kind, name, version, ⟨w0, w1, w2, ⟨vw3, lw3⟩, ⟨vw4, lw4⟩, ⟨vw5, lw5⟩, w6⟩, ⟨p0, p1, p2, p3, p4, p5, ⟨vp6, lp6⟩, ⟨vp7, lp7⟩, ⟨vp8, lp8⟩, p9⟩, ⟨n0, n1, n2, ⟨vn3, ln3⟩, ⟨vn4, ln4⟩, n5, n6⟩, ⟨g0, g1, g2, g3, g4, ⟨vg5, lg5⟩, ⟨vg6, lg6⟩, g7⟩, ⟨h0, h1, h2, ⟨vh3, lh3⟩, h4, ⟨h5, h6, ⟨vh7, lh7⟩⟩, ⟨h8, h9, ⟨vh10, lh10⟩⟩, ⟨vh11, lh11⟩⟩⟩ := o
  obtain ⟨Aw3, cw3, rfl⟩ : ∃ A c, vw3 = .slice A lw3.length c := by obtain ⟨A, c, e, _⟩ := ho.w.labels.1; exact ⟨A, c, e⟩
  obtain ⟨Aw4, cw4, rfl⟩ : ∃ A c, vw4 = .slice A lw4.length c := by obtain ⟨A, c, e, _⟩ := ho.w.select.1; exact ⟨A, c, e⟩
  obtain ⟨Aw5, cw5, rfl⟩ : ∃ A c, vw5 = .slice A lw5.length c := by obtain ⟨A, c, e, _⟩ := ho.w.tolerate.1; exact ⟨A, c, e⟩
  obtain ⟨Ap6, cp6, rfl⟩ : ∃ A c, vp6 = .slice A lp6.length c := by obtain ⟨A, c, e, _⟩ := ho.p.labels.1; exact ⟨A, c, e⟩
  obtain ⟨Ap7, cp7, rfl⟩ : ∃ A c, vp7 = .slice A lp7.length c := by obtain ⟨A, c, e, _⟩ := ho.p.select.1; exact ⟨A, c, e⟩
  obtain ⟨Ap8, cp8, rfl⟩ : ∃ A c, vp8 = .slice A lp8.length c := by obtain ⟨A, c, e, _⟩ := ho.p.tolerate.1; exact ⟨A, c, e⟩
  obtain ⟨An3, cn3, rfl⟩ : ∃ A c, vn3 = .slice A ln3.length c := by obtain ⟨A, c, e, _⟩ := ho.n.labels.1; exact ⟨A, c, e⟩
  obtain ⟨An4, cn4, rfl⟩ : ∃ A c, vn4 = .slice A ln4.length c := by obtain ⟨A, c, e, _⟩ := ho.n.taints.1; exact ⟨A, c, e⟩
  obtain ⟨Ag5, cg5, rfl⟩ : ∃ A c, vg5 = .slice A lg5.length c := by obtain ⟨A, c, e, _⟩ := ho.g.labels.1; exact ⟨A, c, e⟩
  obtain ⟨Ag6, cg6, rfl⟩ : ∃ A c, vg6 = .slice A lg6.length c := by obtain ⟨A, c, e, _⟩ := ho.g.taints.1; exact ⟨A, c, e⟩
  obtain ⟨Ah3, ch3, rfl⟩ : ∃ A c, vh3 = .slice A lh3.length c := by obtain ⟨A, c, e, _⟩ := ho.h.metrics.1; exact ⟨A, c, e⟩
  obtain ⟨Ah7, ch7, rfl⟩ : ∃ A c, vh7 = .slice A lh7.length c := by obtain ⟨A, c, e, _⟩ := ho.h.up.policies.1; exact ⟨A, c, e⟩
  obtain ⟨Ah10, ch10, rfl⟩ : ∃ A c, vh10 = .slice A lh10.length c := by obtain ⟨A, c, e, _⟩ := ho.h.down.policies.1; exact ⟨A, c, e⟩
  obtain ⟨Ah11, ch11, rfl⟩ : ∃ A c, vh11 = .slice A lh11.length c := by obtain ⟨A, c, e, _⟩ := ho.h.past.1; exact ⟨A, c, e⟩
  simp only at hk
  subst hk
  refine px_plain (args := [.agg (Ob.mk 1 name version (⟨w0, w1, w2, ⟨.slice Aw3 lw3.length cw3, lw3⟩, ⟨.slice Aw4 lw4.length cw4, lw4⟩, ⟨.slice Aw5 lw5.length cw5, lw5⟩, w6⟩ : Wl) (⟨p0, p1, p2, p3, p4, p5, ⟨.slice Ap6 lp6.length cp6, lp6⟩, ⟨.slice Ap7 lp7.length cp7, lp7⟩, ⟨.slice Ap8 lp8.length cp8, lp8⟩, p9⟩ : Pd) (⟨n0, n1, n2, ⟨.slice An3 ln3.length cn3, ln3⟩, ⟨.slice An4 ln4.length cn4, ln4⟩, n5, n6⟩ : Nd) (⟨g0, g1, g2, g3, g4, ⟨.slice Ag5 lg5.length cg5, lg5⟩, ⟨.slice Ag6 lg6.length cg6, lg6⟩, g7⟩ : Gr) (⟨h0, h1, h2, ⟨.slice Ah3 lh3.length ch3, lh3⟩, h4, ⟨h5, h6, ⟨.slice Ah7 lh7.length ch7, lh7⟩⟩, ⟨h8, h9, ⟨.slice Ah10 lh10.length ch10, lh10⟩⟩, ⟨.slice Ah11 lh11.length ch11, lh11⟩⟩ : Hp)).cells.toArray]) (callTab [(15, .v (.bool (cpodB (⟨p0, p1, p2, p3, p4, p5, ⟨.slice Ap6 lp6.length cp6, lp6⟩, ⟨.slice Ap7 lp7.length cp7, lp7⟩, ⟨.slice Ap8 lp8.length cp8, lp8⟩, p9⟩ : Pd)))), (34, .v (.bool (nmB name))), (41, .v (.bool (cemptyB (Ob.mk 1 name version (⟨w0, w1, w2, ⟨.slice Aw3 lw3.length cw3, lw3⟩, ⟨.slice Aw4 lw4.length cw4, lw4⟩, ⟨.slice Aw5 lw5.length cw5, lw5⟩, w6⟩ : Wl) (⟨p0, p1, p2, p3, p4, p5, ⟨.slice Ap6 lp6.length cp6, lp6⟩, ⟨.slice Ap7 lp7.length cp7, lp7⟩, ⟨.slice Ap8 lp8.length cp8, lp8⟩, p9⟩ : Pd) (⟨n0, n1, n2, ⟨.slice An3 ln3.length cn3, ln3⟩, ⟨.slice An4 ln4.length cn4, ln4⟩, n5, n6⟩ : Nd) (⟨g0, g1, g2, g3, g4, ⟨.slice Ag5 lg5.length cg5, lg5⟩, ⟨.slice Ag6 lg6.length cg6, lg6⟩, g7⟩ : Gr) (⟨h0, h1, h2, ⟨.slice Ah3 lh3.length ch3, lh3⟩, h4, ⟨h5, h6, ⟨.slice Ah7 lh7.length ch7, lh7⟩⟩, ⟨h8, h9, ⟨.slice Ah10 lh10.length ch10, lh10⟩⟩, ⟨.slice Ah11 lh11.length ch11, lh11⟩⟩ : Hp)))))]) (litIn [6, 11, 16, 21, 26]) 44 Tryz.func41 (by kernel_rfl) (by kernel_rfl) (by simp)
    [.call 62 [.v (.agg (⟨p0, p1, p2, p3, p4, p5, ⟨.slice Ap6 lp6.length cp6, lp6⟩, ⟨.slice Ap7 lp7.length cp7, lp7⟩, ⟨.slice Ap8 lp8.length cp8, lp8⟩, p9⟩ : Pd).cells.toArray)] (.v (.bool (cpodB (⟨p0, p1, p2, p3, p4, p5, ⟨.slice Ap6 lp6.length cp6, lp6⟩, ⟨.slice Ap7 lp7.length cp7, lp7⟩, ⟨.slice Ap8 lp8.length cp8, lp8⟩, p9⟩ : Pd)))), .call 36 [.v (.string name)] (.v (.bool (nmB name))), .call 66 [.v (.agg (Ob.mk 1 name version (⟨w0, w1, w2, ⟨.slice Aw3 lw3.length cw3, lw3⟩, ⟨.slice Aw4 lw4.length cw4, lw4⟩, ⟨.slice Aw5 lw5.length cw5, lw5⟩, w6⟩ : Wl) (⟨p0, p1, p2, p3, p4, p5, ⟨.slice Ap6 lp6.length cp6, lp6⟩, ⟨.slice Ap7 lp7.length cp7, lp7⟩, ⟨.slice Ap8 lp8.length cp8, lp8⟩, p9⟩ : Pd) (⟨n0, n1, n2, ⟨.slice An3 ln3.length cn3, ln3⟩, ⟨.slice An4 ln4.length cn4, ln4⟩, n5, n6⟩ : Nd) (⟨g0, g1, g2, g3, g4, ⟨.slice Ag5 lg5.length cg5, lg5⟩, ⟨.slice Ag6 lg6.length cg6, lg6⟩, g7⟩ : Gr) (⟨h0, h1, h2, ⟨.slice Ah3 lh3.length ch3, lh3⟩, h4, ⟨h5, h6, ⟨.slice Ah7 lh7.length ch7, lh7⟩⟩, ⟨h8, h9, ⟨.slice Ah10 lh10.length ch10, lh10⟩⟩, ⟨.slice Ah11 lh11.length ch11, lh11⟩⟩ : Hp)).cells.toArray)] (.v (.bool (cemptyB (Ob.mk 1 name version (⟨w0, w1, w2, ⟨.slice Aw3 lw3.length cw3, lw3⟩, ⟨.slice Aw4 lw4.length cw4, lw4⟩, ⟨.slice Aw5 lw5.length cw5, lw5⟩, w6⟩ : Wl) (⟨p0, p1, p2, p3, p4, p5, ⟨.slice Ap6 lp6.length cp6, lp6⟩, ⟨.slice Ap7 lp7.length cp7, lp7⟩, ⟨.slice Ap8 lp8.length cp8, lp8⟩, p9⟩ : Pd) (⟨n0, n1, n2, ⟨.slice An3 ln3.length cn3, ln3⟩, ⟨.slice An4 ln4.length cn4, ln4⟩, n5, n6⟩ : Nd) (⟨g0, g1, g2, g3, g4, ⟨.slice Ag5 lg5.length cg5, lg5⟩, ⟨.slice Ag6 lg6.length cg6, lg6⟩, g7⟩ : Gr) (⟨h0, h1, h2, ⟨.slice Ah3 lh3.length ch3, lh3⟩, h4, ⟨h5, h6, ⟨.slice Ah7 lh7.length ch7, lh7⟩⟩, ⟨h8, h9, ⟨.slice Ah10 lh10.length ch10, lh10⟩⟩, ⟨.slice Ah11 lh11.length ch11, lh11⟩⟩ : Hp)))))] [] [.v (ckV (nmB name) (cpodB (⟨p0, p1, p2, p3, p4, p5, ⟨.slice Ap6 lp6.length cp6, lp6⟩, ⟨.slice Ap7 lp7.length cp7, lp7⟩, ⟨.slice Ap8 lp8.length cp8, lp8⟩, p9⟩ : Pd)) (cemptyB (Ob.mk 1 name version (⟨w0, w1, w2, ⟨.slice Aw3 lw3.length cw3, lw3⟩, ⟨.slice Aw4 lw4.length cw4, lw4⟩, ⟨.slice Aw5 lw5.length cw5, lw5⟩, w6⟩ : Wl) (⟨p0, p1, p2, p3, p4, p5, ⟨.slice Ap6 lp6.length cp6, lp6⟩, ⟨.slice Ap7 lp7.length cp7, lp7⟩, ⟨.slice Ap8 lp8.length cp8, lp8⟩, p9⟩ : Pd) (⟨n0, n1, n2, ⟨.slice An3 ln3.length cn3, ln3⟩, ⟨.slice An4 ln4.length cn4, ln4⟩, n5, n6⟩ : Nd) (⟨g0, g1, g2, g3, g4, ⟨.slice Ag5 lg5.length cg5, lg5⟩, ⟨.slice Ag6 lg6.length cg6, lg6⟩, g7⟩ : Gr) (⟨h0, h1, h2, ⟨.slice Ah3 lh3.length ch3, lh3⟩, h4, ⟨h5, h6, ⟨.slice Ah7 lh7.length ch7, lh7⟩⟩, ⟨h8, h9, ⟨.slice Ah10 lh10.length ch10, lh10⟩⟩, ⟨.slice Ah11 lh11.length ch11, lh11⟩⟩ : Hp))))] (by kernel_rfl) (fun p hp => by cases hp) ?_ (fun ρ w' hb => ⟨by rw [ck_res], hb⟩)
  exact paid2_cons (fun ρ _ w1 hb => vpod_any _ w1 (ho.p.below hb)) (paid2_cons (fun ρ _ w1 hb => (lname_any _ w1 (wfs_max ho.name)).mono fun e w' ⟨h1, h2⟩ => ⟨h1, h2 ▸ Below.refl _ _⟩) (paid2_cons (fun ρ _ w1 hb => vempties_any _ w1 (ho.below hb)) paid2_nil))
set_option maxRecDepth 100000 in
theorem vcheck_2 (o : Ob) (w : World) (ho : o.Ok w) (hk : o.kind = 2) : Calls Tryz.prog 41 #[.agg o.cells.toArray] w fun e w' => e = .returned (.int .i64 (errN o.name (cnodeB o.n && cemptyB o))) ∧ Below w.heap.size w w' := by
  obtain ⟨kind, name, version, ⟨w0, w1, w2, ⟨vw3, lw3⟩, ⟨vw4, lw4⟩, ⟨vw5, lw5⟩, w6⟩, ⟨p0, p1, p2, p3, p4, p5, ⟨vp6, lp6⟩, ⟨vp7, lp7⟩, ⟨vp8, lp8⟩, p9⟩, ⟨n0, n1, n2, ⟨vn3, ln3⟩, ⟨vn4, ln4⟩, n5, n6⟩, ⟨g0, g1, g2, g3, g4, ⟨vg5, lg5⟩, ⟨vg6, lg6⟩, g7⟩, ⟨h0, h1, h2, ⟨vh3, lh3⟩, h4, ⟨h5, h6, ⟨vh7, lh7⟩⟩, ⟨h8, h9, ⟨vh10, lh10⟩⟩, ⟨vh11, lh11⟩⟩⟩ := o
  obtain ⟨Aw3, cw3, rfl⟩ : ∃ A c, vw3 = .slice A lw3.length c := by obtain ⟨A, c, e, _⟩ := ho.w.labels.1; exact ⟨A, c, e⟩
  obtain ⟨Aw4, cw4, rfl⟩ : ∃ A c, vw4 = .slice A lw4.length c := by obtain ⟨A, c, e, _⟩ := ho.w.select.1; exact ⟨A, c, e⟩
  obtain ⟨Aw5, cw5, rfl⟩ : ∃ A c, vw5 = .slice A lw5.length c := by obtain ⟨A, c, e, _⟩ := ho.w.tolerate.1; exact ⟨A, c, e⟩
  obtain ⟨Ap6, cp6, rfl⟩ : ∃ A c, vp6 = .slice A lp6.length c := by obtain ⟨A, c, e, _⟩ := ho.p.labels.1; exact ⟨A, c, e⟩
  obtain ⟨Ap7, cp7, rfl⟩ : ∃ A c, vp7 = .slice A lp7.length c := by obtain ⟨A, c, e, _⟩ := ho.p.select.1; exact ⟨A, c, e⟩
  obtain ⟨Ap8, cp8, rfl⟩ : ∃ A c, vp8 = .slice A lp8.length c := by obtain ⟨A, c, e, _⟩ := ho.p.tolerate.1; exact ⟨A, c, e⟩
  obtain ⟨An3, cn3, rfl⟩ : ∃ A c, vn3 = .slice A ln3.length c := by obtain ⟨A, c, e, _⟩ := ho.n.labels.1; exact ⟨A, c, e⟩
  obtain ⟨An4, cn4, rfl⟩ : ∃ A c, vn4 = .slice A ln4.length c := by obtain ⟨A, c, e, _⟩ := ho.n.taints.1; exact ⟨A, c, e⟩
  obtain ⟨Ag5, cg5, rfl⟩ : ∃ A c, vg5 = .slice A lg5.length c := by obtain ⟨A, c, e, _⟩ := ho.g.labels.1; exact ⟨A, c, e⟩
  obtain ⟨Ag6, cg6, rfl⟩ : ∃ A c, vg6 = .slice A lg6.length c := by obtain ⟨A, c, e, _⟩ := ho.g.taints.1; exact ⟨A, c, e⟩
  obtain ⟨Ah3, ch3, rfl⟩ : ∃ A c, vh3 = .slice A lh3.length c := by obtain ⟨A, c, e, _⟩ := ho.h.metrics.1; exact ⟨A, c, e⟩
  obtain ⟨Ah7, ch7, rfl⟩ : ∃ A c, vh7 = .slice A lh7.length c := by obtain ⟨A, c, e, _⟩ := ho.h.up.policies.1; exact ⟨A, c, e⟩
  obtain ⟨Ah10, ch10, rfl⟩ : ∃ A c, vh10 = .slice A lh10.length c := by obtain ⟨A, c, e, _⟩ := ho.h.down.policies.1; exact ⟨A, c, e⟩
  obtain ⟨Ah11, ch11, rfl⟩ : ∃ A c, vh11 = .slice A lh11.length c := by obtain ⟨A, c, e, _⟩ := ho.h.past.1; exact ⟨A, c, e⟩
  simp only at hk
  subst hk
  refine px_plain (args := [.agg (Ob.mk 2 name version (⟨w0, w1, w2, ⟨.slice Aw3 lw3.length cw3, lw3⟩, ⟨.slice Aw4 lw4.length cw4, lw4⟩, ⟨.slice Aw5 lw5.length cw5, lw5⟩, w6⟩ : Wl) (⟨p0, p1, p2, p3, p4, p5, ⟨.slice Ap6 lp6.length cp6, lp6⟩, ⟨.slice Ap7 lp7.length cp7, lp7⟩, ⟨.slice Ap8 lp8.length cp8, lp8⟩, p9⟩ : Pd) (⟨n0, n1, n2, ⟨.slice An3 ln3.length cn3, ln3⟩, ⟨.slice An4 ln4.length cn4, ln4⟩, n5, n6⟩ : Nd) (⟨g0, g1, g2, g3, g4, ⟨.slice Ag5 lg5.length cg5, lg5⟩, ⟨.slice Ag6 lg6.length cg6, lg6⟩, g7⟩ : Gr) (⟨h0, h1, h2, ⟨.slice Ah3 lh3.length ch3, lh3⟩, h4, ⟨h5, h6, ⟨.slice Ah7 lh7.length ch7, lh7⟩⟩, ⟨h8, h9, ⟨.slice Ah10 lh10.length ch10, lh10⟩⟩, ⟨.slice Ah11 lh11.length ch11, lh11⟩⟩ : Hp)).cells.toArray]) (callTab [(20, .v (.bool (cnodeB (⟨n0, n1, n2, ⟨.slice An3 ln3.length cn3, ln3⟩, ⟨.slice An4 ln4.length cn4, ln4⟩, n5, n6⟩ : Nd)))), (34, .v (.bool (nmB name))), (41, .v (.bool (cemptyB (Ob.mk 2 name version (⟨w0, w1, w2, ⟨.slice Aw3 lw3.length cw3, lw3⟩, ⟨.slice Aw4 lw4.length cw4, lw4⟩, ⟨.slice Aw5 lw5.length cw5, lw5⟩, w6⟩ : Wl) (⟨p0, p1, p2, p3, p4, p5, ⟨.slice Ap6 lp6.length cp6, lp6⟩, ⟨.slice Ap7 lp7.length cp7, lp7⟩, ⟨.slice Ap8 lp8.length cp8, lp8⟩, p9⟩ : Pd) (⟨n0, n1, n2, ⟨.slice An3 ln3.length cn3, ln3⟩, ⟨.slice An4 ln4.length cn4, ln4⟩, n5, n6⟩ : Nd) (⟨g0, g1, g2, g3, g4, ⟨.slice Ag5 lg5.length cg5, lg5⟩, ⟨.slice Ag6 lg6.length cg6, lg6⟩, g7⟩ : Gr) (⟨h0, h1, h2, ⟨.slice Ah3 lh3.length ch3, lh3⟩, h4, ⟨h5, h6, ⟨.slice Ah7 lh7.length ch7, lh7⟩⟩, ⟨h8, h9, ⟨.slice Ah10 lh10.length ch10, lh10⟩⟩, ⟨.slice Ah11 lh11.length ch11, lh11⟩⟩ : Hp)))))]) (litIn [6, 11, 16, 21, 26]) 44 Tryz.func41 (by kernel_rfl) (by kernel_rfl) (by simp)
    [.call 63 [.v (.agg (⟨n0, n1, n2, ⟨.slice An3 ln3.length cn3, ln3⟩, ⟨.slice An4 ln4.length cn4, ln4⟩, n5, n6⟩ : Nd).cells.toArray)] (.v (.bool (cnodeB (⟨n0, n1, n2, ⟨.slice An3 ln3.length cn3, ln3⟩, ⟨.slice An4 ln4.length cn4, ln4⟩, n5, n6⟩ : Nd)))), .call 36 [.v (.string name)] (.v (.bool (nmB name))), .call 66 [.v (.agg (Ob.mk 2 name version (⟨w0, w1, w2, ⟨.slice Aw3 lw3.length cw3, lw3⟩, ⟨.slice Aw4 lw4.length cw4, lw4⟩, ⟨.slice Aw5 lw5.length cw5, lw5⟩, w6⟩ : Wl) (⟨p0, p1, p2, p3, p4, p5, ⟨.slice Ap6 lp6.length cp6, lp6⟩, ⟨.slice Ap7 lp7.length cp7, lp7⟩, ⟨.slice Ap8 lp8.length cp8, lp8⟩, p9⟩ : Pd) (⟨n0, n1, n2, ⟨.slice An3 ln3.length cn3, ln3⟩, ⟨.slice An4 ln4.length cn4, ln4⟩, n5, n6⟩ : Nd) (⟨g0, g1, g2, g3, g4, ⟨.slice Ag5 lg5.length cg5, lg5⟩, ⟨.slice Ag6 lg6.length cg6, lg6⟩, g7⟩ : Gr) (⟨h0, h1, h2, ⟨.slice Ah3 lh3.length ch3, lh3⟩, h4, ⟨h5, h6, ⟨.slice Ah7 lh7.length ch7, lh7⟩⟩, ⟨h8, h9, ⟨.slice Ah10 lh10.length ch10, lh10⟩⟩, ⟨.slice Ah11 lh11.length ch11, lh11⟩⟩ : Hp)).cells.toArray)] (.v (.bool (cemptyB (Ob.mk 2 name version (⟨w0, w1, w2, ⟨.slice Aw3 lw3.length cw3, lw3⟩, ⟨.slice Aw4 lw4.length cw4, lw4⟩, ⟨.slice Aw5 lw5.length cw5, lw5⟩, w6⟩ : Wl) (⟨p0, p1, p2, p3, p4, p5, ⟨.slice Ap6 lp6.length cp6, lp6⟩, ⟨.slice Ap7 lp7.length cp7, lp7⟩, ⟨.slice Ap8 lp8.length cp8, lp8⟩, p9⟩ : Pd) (⟨n0, n1, n2, ⟨.slice An3 ln3.length cn3, ln3⟩, ⟨.slice An4 ln4.length cn4, ln4⟩, n5, n6⟩ : Nd) (⟨g0, g1, g2, g3, g4, ⟨.slice Ag5 lg5.length cg5, lg5⟩, ⟨.slice Ag6 lg6.length cg6, lg6⟩, g7⟩ : Gr) (⟨h0, h1, h2, ⟨.slice Ah3 lh3.length ch3, lh3⟩, h4, ⟨h5, h6, ⟨.slice Ah7 lh7.length ch7, lh7⟩⟩, ⟨h8, h9, ⟨.slice Ah10 lh10.length ch10, lh10⟩⟩, ⟨.slice Ah11 lh11.length ch11, lh11⟩⟩ : Hp)))))] [] [.v (ckV (nmB name) (cnodeB (⟨n0, n1, n2, ⟨.slice An3 ln3.length cn3, ln3⟩, ⟨.slice An4 ln4.length cn4, ln4⟩, n5, n6⟩ : Nd)) (cemptyB (Ob.mk 2 name version (⟨w0, w1, w2, ⟨.slice Aw3 lw3.length cw3, lw3⟩, ⟨.slice Aw4 lw4.length cw4, lw4⟩, ⟨.slice Aw5 lw5.length cw5, lw5⟩, w6⟩ : Wl) (⟨p0, p1, p2, p3, p4, p5, ⟨.slice Ap6 lp6.length cp6, lp6⟩, ⟨.slice Ap7 lp7.length cp7, lp7⟩, ⟨.slice Ap8 lp8.length cp8, lp8⟩, p9⟩ : Pd) (⟨n0, n1, n2, ⟨.slice An3 ln3.length cn3, ln3⟩, ⟨.slice An4 ln4.length cn4, ln4⟩, n5, n6⟩ : Nd) (⟨g0, g1, g2, g3, g4, ⟨.slice Ag5 lg5.length cg5, lg5⟩, ⟨.slice Ag6 lg6.length cg6, lg6⟩, g7⟩ : Gr) (⟨h0, h1, h2, ⟨.slice Ah3 lh3.length ch3, lh3⟩, h4, ⟨h5, h6, ⟨.slice Ah7 lh7.length ch7, lh7⟩⟩, ⟨h8, h9, ⟨.slice Ah10 lh10.length ch10, lh10⟩⟩, ⟨.slice Ah11 lh11.length ch11, lh11⟩⟩ : Hp))))] (by kernel_rfl) (fun p hp => by cases hp) ?_ (fun ρ w' hb => ⟨by rw [ck_res], hb⟩)
  exact paid2_cons (fun ρ _ w1 hb => vnode_any _ w1 (ho.n.below hb)) (paid2_cons (fun ρ _ w1 hb => (lname_any _ w1 (wfs_max ho.name)).mono fun e w' ⟨h1, h2⟩ => ⟨h1, h2 ▸ Below.refl _ _⟩) (paid2_cons (fun ρ _ w1 hb => vempties_any _ w1 (ho.below hb)) paid2_nil))
set_option maxRecDepth 100000 in
theorem vcheck_3 (o : Ob) (w : World) (ho : o.Ok w) (hk : o.kind = 3) : Calls Tryz.prog 41 #[.agg o.cells.toArray] w fun e w' => e = .returned (.int .i64 (errN o.name (cgroupB o.g && cemptyB o))) ∧ Below w.heap.size w w' := by
  obtain ⟨kind, name, version, ⟨w0, w1, w2, ⟨vw3, lw3⟩, ⟨vw4, lw4⟩, ⟨vw5, lw5⟩, w6⟩, ⟨p0, p1, p2, p3, p4, p5, ⟨vp6, lp6⟩, ⟨vp7, lp7⟩, ⟨vp8, lp8⟩, p9⟩, ⟨n0, n1, n2, ⟨vn3, ln3⟩, ⟨vn4, ln4⟩, n5, n6⟩, ⟨g0, g1, g2, g3, g4, ⟨vg5, lg5⟩, ⟨vg6, lg6⟩, g7⟩, ⟨h0, h1, h2, ⟨vh3, lh3⟩, h4, ⟨h5, h6, ⟨vh7, lh7⟩⟩, ⟨h8, h9, ⟨vh10, lh10⟩⟩, ⟨vh11, lh11⟩⟩⟩ := o
  obtain ⟨Aw3, cw3, rfl⟩ : ∃ A c, vw3 = .slice A lw3.length c := by obtain ⟨A, c, e, _⟩ := ho.w.labels.1; exact ⟨A, c, e⟩
  obtain ⟨Aw4, cw4, rfl⟩ : ∃ A c, vw4 = .slice A lw4.length c := by obtain ⟨A, c, e, _⟩ := ho.w.select.1; exact ⟨A, c, e⟩
  obtain ⟨Aw5, cw5, rfl⟩ : ∃ A c, vw5 = .slice A lw5.length c := by obtain ⟨A, c, e, _⟩ := ho.w.tolerate.1; exact ⟨A, c, e⟩
  obtain ⟨Ap6, cp6, rfl⟩ : ∃ A c, vp6 = .slice A lp6.length c := by obtain ⟨A, c, e, _⟩ := ho.p.labels.1; exact ⟨A, c, e⟩
  obtain ⟨Ap7, cp7, rfl⟩ : ∃ A c, vp7 = .slice A lp7.length c := by obtain ⟨A, c, e, _⟩ := ho.p.select.1; exact ⟨A, c, e⟩
  obtain ⟨Ap8, cp8, rfl⟩ : ∃ A c, vp8 = .slice A lp8.length c := by obtain ⟨A, c, e, _⟩ := ho.p.tolerate.1; exact ⟨A, c, e⟩
  obtain ⟨An3, cn3, rfl⟩ : ∃ A c, vn3 = .slice A ln3.length c := by obtain ⟨A, c, e, _⟩ := ho.n.labels.1; exact ⟨A, c, e⟩
  obtain ⟨An4, cn4, rfl⟩ : ∃ A c, vn4 = .slice A ln4.length c := by obtain ⟨A, c, e, _⟩ := ho.n.taints.1; exact ⟨A, c, e⟩
  obtain ⟨Ag5, cg5, rfl⟩ : ∃ A c, vg5 = .slice A lg5.length c := by obtain ⟨A, c, e, _⟩ := ho.g.labels.1; exact ⟨A, c, e⟩
  obtain ⟨Ag6, cg6, rfl⟩ : ∃ A c, vg6 = .slice A lg6.length c := by obtain ⟨A, c, e, _⟩ := ho.g.taints.1; exact ⟨A, c, e⟩
  obtain ⟨Ah3, ch3, rfl⟩ : ∃ A c, vh3 = .slice A lh3.length c := by obtain ⟨A, c, e, _⟩ := ho.h.metrics.1; exact ⟨A, c, e⟩
  obtain ⟨Ah7, ch7, rfl⟩ : ∃ A c, vh7 = .slice A lh7.length c := by obtain ⟨A, c, e, _⟩ := ho.h.up.policies.1; exact ⟨A, c, e⟩
  obtain ⟨Ah10, ch10, rfl⟩ : ∃ A c, vh10 = .slice A lh10.length c := by obtain ⟨A, c, e, _⟩ := ho.h.down.policies.1; exact ⟨A, c, e⟩
  obtain ⟨Ah11, ch11, rfl⟩ : ∃ A c, vh11 = .slice A lh11.length c := by obtain ⟨A, c, e, _⟩ := ho.h.past.1; exact ⟨A, c, e⟩
  simp only at hk
  subst hk
  refine px_plain (args := [.agg (Ob.mk 3 name version (⟨w0, w1, w2, ⟨.slice Aw3 lw3.length cw3, lw3⟩, ⟨.slice Aw4 lw4.length cw4, lw4⟩, ⟨.slice Aw5 lw5.length cw5, lw5⟩, w6⟩ : Wl) (⟨p0, p1, p2, p3, p4, p5, ⟨.slice Ap6 lp6.length cp6, lp6⟩, ⟨.slice Ap7 lp7.length cp7, lp7⟩, ⟨.slice Ap8 lp8.length cp8, lp8⟩, p9⟩ : Pd) (⟨n0, n1, n2, ⟨.slice An3 ln3.length cn3, ln3⟩, ⟨.slice An4 ln4.length cn4, ln4⟩, n5, n6⟩ : Nd) (⟨g0, g1, g2, g3, g4, ⟨.slice Ag5 lg5.length cg5, lg5⟩, ⟨.slice Ag6 lg6.length cg6, lg6⟩, g7⟩ : Gr) (⟨h0, h1, h2, ⟨.slice Ah3 lh3.length ch3, lh3⟩, h4, ⟨h5, h6, ⟨.slice Ah7 lh7.length ch7, lh7⟩⟩, ⟨h8, h9, ⟨.slice Ah10 lh10.length ch10, lh10⟩⟩, ⟨.slice Ah11 lh11.length ch11, lh11⟩⟩ : Hp)).cells.toArray]) (callTab [(25, .v (.bool (cgroupB (⟨g0, g1, g2, g3, g4, ⟨.slice Ag5 lg5.length cg5, lg5⟩, ⟨.slice Ag6 lg6.length cg6, lg6⟩, g7⟩ : Gr)))), (34, .v (.bool (nmB name))), (41, .v (.bool (cemptyB (Ob.mk 3 name version (⟨w0, w1, w2, ⟨.slice Aw3 lw3.length cw3, lw3⟩, ⟨.slice Aw4 lw4.length cw4, lw4⟩, ⟨.slice Aw5 lw5.length cw5, lw5⟩, w6⟩ : Wl) (⟨p0, p1, p2, p3, p4, p5, ⟨.slice Ap6 lp6.length cp6, lp6⟩, ⟨.slice Ap7 lp7.length cp7, lp7⟩, ⟨.slice Ap8 lp8.length cp8, lp8⟩, p9⟩ : Pd) (⟨n0, n1, n2, ⟨.slice An3 ln3.length cn3, ln3⟩, ⟨.slice An4 ln4.length cn4, ln4⟩, n5, n6⟩ : Nd) (⟨g0, g1, g2, g3, g4, ⟨.slice Ag5 lg5.length cg5, lg5⟩, ⟨.slice Ag6 lg6.length cg6, lg6⟩, g7⟩ : Gr) (⟨h0, h1, h2, ⟨.slice Ah3 lh3.length ch3, lh3⟩, h4, ⟨h5, h6, ⟨.slice Ah7 lh7.length ch7, lh7⟩⟩, ⟨h8, h9, ⟨.slice Ah10 lh10.length ch10, lh10⟩⟩, ⟨.slice Ah11 lh11.length ch11, lh11⟩⟩ : Hp)))))]) (litIn [6, 11, 16, 21, 26]) 44 Tryz.func41 (by kernel_rfl) (by kernel_rfl) (by simp)
    [.call 64 [.v (.agg (⟨g0, g1, g2, g3, g4, ⟨.slice Ag5 lg5.length cg5, lg5⟩, ⟨.slice Ag6 lg6.length cg6, lg6⟩, g7⟩ : Gr).cells.toArray)] (.v (.bool (cgroupB (⟨g0, g1, g2, g3, g4, ⟨.slice Ag5 lg5.length cg5, lg5⟩, ⟨.slice Ag6 lg6.length cg6, lg6⟩, g7⟩ : Gr)))), .call 36 [.v (.string name)] (.v (.bool (nmB name))), .call 66 [.v (.agg (Ob.mk 3 name version (⟨w0, w1, w2, ⟨.slice Aw3 lw3.length cw3, lw3⟩, ⟨.slice Aw4 lw4.length cw4, lw4⟩, ⟨.slice Aw5 lw5.length cw5, lw5⟩, w6⟩ : Wl) (⟨p0, p1, p2, p3, p4, p5, ⟨.slice Ap6 lp6.length cp6, lp6⟩, ⟨.slice Ap7 lp7.length cp7, lp7⟩, ⟨.slice Ap8 lp8.length cp8, lp8⟩, p9⟩ : Pd) (⟨n0, n1, n2, ⟨.slice An3 ln3.length cn3, ln3⟩, ⟨.slice An4 ln4.length cn4, ln4⟩, n5, n6⟩ : Nd) (⟨g0, g1, g2, g3, g4, ⟨.slice Ag5 lg5.length cg5, lg5⟩, ⟨.slice Ag6 lg6.length cg6, lg6⟩, g7⟩ : Gr) (⟨h0, h1, h2, ⟨.slice Ah3 lh3.length ch3, lh3⟩, h4, ⟨h5, h6, ⟨.slice Ah7 lh7.length ch7, lh7⟩⟩, ⟨h8, h9, ⟨.slice Ah10 lh10.length ch10, lh10⟩⟩, ⟨.slice Ah11 lh11.length ch11, lh11⟩⟩ : Hp)).cells.toArray)] (.v (.bool (cemptyB (Ob.mk 3 name version (⟨w0, w1, w2, ⟨.slice Aw3 lw3.length cw3, lw3⟩, ⟨.slice Aw4 lw4.length cw4, lw4⟩, ⟨.slice Aw5 lw5.length cw5, lw5⟩, w6⟩ : Wl) (⟨p0, p1, p2, p3, p4, p5, ⟨.slice Ap6 lp6.length cp6, lp6⟩, ⟨.slice Ap7 lp7.length cp7, lp7⟩, ⟨.slice Ap8 lp8.length cp8, lp8⟩, p9⟩ : Pd) (⟨n0, n1, n2, ⟨.slice An3 ln3.length cn3, ln3⟩, ⟨.slice An4 ln4.length cn4, ln4⟩, n5, n6⟩ : Nd) (⟨g0, g1, g2, g3, g4, ⟨.slice Ag5 lg5.length cg5, lg5⟩, ⟨.slice Ag6 lg6.length cg6, lg6⟩, g7⟩ : Gr) (⟨h0, h1, h2, ⟨.slice Ah3 lh3.length ch3, lh3⟩, h4, ⟨h5, h6, ⟨.slice Ah7 lh7.length ch7, lh7⟩⟩, ⟨h8, h9, ⟨.slice Ah10 lh10.length ch10, lh10⟩⟩, ⟨.slice Ah11 lh11.length ch11, lh11⟩⟩ : Hp)))))] [] [.v (ckV (nmB name) (cgroupB (⟨g0, g1, g2, g3, g4, ⟨.slice Ag5 lg5.length cg5, lg5⟩, ⟨.slice Ag6 lg6.length cg6, lg6⟩, g7⟩ : Gr)) (cemptyB (Ob.mk 3 name version (⟨w0, w1, w2, ⟨.slice Aw3 lw3.length cw3, lw3⟩, ⟨.slice Aw4 lw4.length cw4, lw4⟩, ⟨.slice Aw5 lw5.length cw5, lw5⟩, w6⟩ : Wl) (⟨p0, p1, p2, p3, p4, p5, ⟨.slice Ap6 lp6.length cp6, lp6⟩, ⟨.slice Ap7 lp7.length cp7, lp7⟩, ⟨.slice Ap8 lp8.length cp8, lp8⟩, p9⟩ : Pd) (⟨n0, n1, n2, ⟨.slice An3 ln3.length cn3, ln3⟩, ⟨.slice An4 ln4.length cn4, ln4⟩, n5, n6⟩ : Nd) (⟨g0, g1, g2, g3, g4, ⟨.slice Ag5 lg5.length cg5, lg5⟩, ⟨.slice Ag6 lg6.length cg6, lg6⟩, g7⟩ : Gr) (⟨h0, h1, h2, ⟨.slice Ah3 lh3.length ch3, lh3⟩, h4, ⟨h5, h6, ⟨.slice Ah7 lh7.length ch7, lh7⟩⟩, ⟨h8, h9, ⟨.slice Ah10 lh10.length ch10, lh10⟩⟩, ⟨.slice Ah11 lh11.length ch11, lh11⟩⟩ : Hp))))] (by kernel_rfl) (fun p hp => by cases hp) ?_ (fun ρ w' hb => ⟨by rw [ck_res], hb⟩)
  exact paid2_cons (fun ρ _ w1 hb => vgroup_any _ w1 (ho.g.below hb)) (paid2_cons (fun ρ _ w1 hb => (lname_any _ w1 (wfs_max ho.name)).mono fun e w' ⟨h1, h2⟩ => ⟨h1, h2 ▸ Below.refl _ _⟩) (paid2_cons (fun ρ _ w1 hb => vempties_any _ w1 (ho.below hb)) paid2_nil))
set_option maxRecDepth 100000 in
theorem vcheck_4 (o : Ob) (w : World) (ho : o.Ok w) (hk : o.kind = 4) : Calls Tryz.prog 41 #[.agg o.cells.toArray] w fun e w' => e = .returned (.int .i64 (errN o.name (chpaB o.h && cemptyB o))) ∧ Below w.heap.size w w' := by
  obtain ⟨kind, name, version, ⟨w0, w1, w2, ⟨vw3, lw3⟩, ⟨vw4, lw4⟩, ⟨vw5, lw5⟩, w6⟩, ⟨p0, p1, p2, p3, p4, p5, ⟨vp6, lp6⟩, ⟨vp7, lp7⟩, ⟨vp8, lp8⟩, p9⟩, ⟨n0, n1, n2, ⟨vn3, ln3⟩, ⟨vn4, ln4⟩, n5, n6⟩, ⟨g0, g1, g2, g3, g4, ⟨vg5, lg5⟩, ⟨vg6, lg6⟩, g7⟩, ⟨h0, h1, h2, ⟨vh3, lh3⟩, h4, ⟨h5, h6, ⟨vh7, lh7⟩⟩, ⟨h8, h9, ⟨vh10, lh10⟩⟩, ⟨vh11, lh11⟩⟩⟩ := o
  obtain ⟨Aw3, cw3, rfl⟩ : ∃ A c, vw3 = .slice A lw3.length c := by obtain ⟨A, c, e, _⟩ := ho.w.labels.1; exact ⟨A, c, e⟩
  obtain ⟨Aw4, cw4, rfl⟩ : ∃ A c, vw4 = .slice A lw4.length c := by obtain ⟨A, c, e, _⟩ := ho.w.select.1; exact ⟨A, c, e⟩
  obtain ⟨Aw5, cw5, rfl⟩ : ∃ A c, vw5 = .slice A lw5.length c := by obtain ⟨A, c, e, _⟩ := ho.w.tolerate.1; exact ⟨A, c, e⟩
  obtain ⟨Ap6, cp6, rfl⟩ : ∃ A c, vp6 = .slice A lp6.length c := by obtain ⟨A, c, e, _⟩ := ho.p.labels.1; exact ⟨A, c, e⟩
  obtain ⟨Ap7, cp7, rfl⟩ : ∃ A c, vp7 = .slice A lp7.length c := by obtain ⟨A, c, e, _⟩ := ho.p.select.1; exact ⟨A, c, e⟩
  obtain ⟨Ap8, cp8, rfl⟩ : ∃ A c, vp8 = .slice A lp8.length c := by obtain ⟨A, c, e, _⟩ := ho.p.tolerate.1; exact ⟨A, c, e⟩
  obtain ⟨An3, cn3, rfl⟩ : ∃ A c, vn3 = .slice A ln3.length c := by obtain ⟨A, c, e, _⟩ := ho.n.labels.1; exact ⟨A, c, e⟩
  obtain ⟨An4, cn4, rfl⟩ : ∃ A c, vn4 = .slice A ln4.length c := by obtain ⟨A, c, e, _⟩ := ho.n.taints.1; exact ⟨A, c, e⟩
  obtain ⟨Ag5, cg5, rfl⟩ : ∃ A c, vg5 = .slice A lg5.length c := by obtain ⟨A, c, e, _⟩ := ho.g.labels.1; exact ⟨A, c, e⟩
  obtain ⟨Ag6, cg6, rfl⟩ : ∃ A c, vg6 = .slice A lg6.length c := by obtain ⟨A, c, e, _⟩ := ho.g.taints.1; exact ⟨A, c, e⟩
  obtain ⟨Ah3, ch3, rfl⟩ : ∃ A c, vh3 = .slice A lh3.length c := by obtain ⟨A, c, e, _⟩ := ho.h.metrics.1; exact ⟨A, c, e⟩
  obtain ⟨Ah7, ch7, rfl⟩ : ∃ A c, vh7 = .slice A lh7.length c := by obtain ⟨A, c, e, _⟩ := ho.h.up.policies.1; exact ⟨A, c, e⟩
  obtain ⟨Ah10, ch10, rfl⟩ : ∃ A c, vh10 = .slice A lh10.length c := by obtain ⟨A, c, e, _⟩ := ho.h.down.policies.1; exact ⟨A, c, e⟩
  obtain ⟨Ah11, ch11, rfl⟩ : ∃ A c, vh11 = .slice A lh11.length c := by obtain ⟨A, c, e, _⟩ := ho.h.past.1; exact ⟨A, c, e⟩
  simp only at hk
  subst hk
  refine px_plain (args := [.agg (Ob.mk 4 name version (⟨w0, w1, w2, ⟨.slice Aw3 lw3.length cw3, lw3⟩, ⟨.slice Aw4 lw4.length cw4, lw4⟩, ⟨.slice Aw5 lw5.length cw5, lw5⟩, w6⟩ : Wl) (⟨p0, p1, p2, p3, p4, p5, ⟨.slice Ap6 lp6.length cp6, lp6⟩, ⟨.slice Ap7 lp7.length cp7, lp7⟩, ⟨.slice Ap8 lp8.length cp8, lp8⟩, p9⟩ : Pd) (⟨n0, n1, n2, ⟨.slice An3 ln3.length cn3, ln3⟩, ⟨.slice An4 ln4.length cn4, ln4⟩, n5, n6⟩ : Nd) (⟨g0, g1, g2, g3, g4, ⟨.slice Ag5 lg5.length cg5, lg5⟩, ⟨.slice Ag6 lg6.length cg6, lg6⟩, g7⟩ : Gr) (⟨h0, h1, h2, ⟨.slice Ah3 lh3.length ch3, lh3⟩, h4, ⟨h5, h6, ⟨.slice Ah7 lh7.length ch7, lh7⟩⟩, ⟨h8, h9, ⟨.slice Ah10 lh10.length ch10, lh10⟩⟩, ⟨.slice Ah11 lh11.length ch11, lh11⟩⟩ : Hp)).cells.toArray]) (callTab [(30, .v (.bool (chpaB (⟨h0, h1, h2, ⟨.slice Ah3 lh3.length ch3, lh3⟩, h4, ⟨h5, h6, ⟨.slice Ah7 lh7.length ch7, lh7⟩⟩, ⟨h8, h9, ⟨.slice Ah10 lh10.length ch10, lh10⟩⟩, ⟨.slice Ah11 lh11.length ch11, lh11⟩⟩ : Hp)))), (34, .v (.bool (nmB name))), (41, .v (.bool (cemptyB (Ob.mk 4 name version (⟨w0, w1, w2, ⟨.slice Aw3 lw3.length cw3, lw3⟩, ⟨.slice Aw4 lw4.length cw4, lw4⟩, ⟨.slice Aw5 lw5.length cw5, lw5⟩, w6⟩ : Wl) (⟨p0, p1, p2, p3, p4, p5, ⟨.slice Ap6 lp6.length cp6, lp6⟩, ⟨.slice Ap7 lp7.length cp7, lp7⟩, ⟨.slice Ap8 lp8.length cp8, lp8⟩, p9⟩ : Pd) (⟨n0, n1, n2, ⟨.slice An3 ln3.length cn3, ln3⟩, ⟨.slice An4 ln4.length cn4, ln4⟩, n5, n6⟩ : Nd) (⟨g0, g1, g2, g3, g4, ⟨.slice Ag5 lg5.length cg5, lg5⟩, ⟨.slice Ag6 lg6.length cg6, lg6⟩, g7⟩ : Gr) (⟨h0, h1, h2, ⟨.slice Ah3 lh3.length ch3, lh3⟩, h4, ⟨h5, h6, ⟨.slice Ah7 lh7.length ch7, lh7⟩⟩, ⟨h8, h9, ⟨.slice Ah10 lh10.length ch10, lh10⟩⟩, ⟨.slice Ah11 lh11.length ch11, lh11⟩⟩ : Hp)))))]) (litIn [6, 11, 16, 21, 26]) 44 Tryz.func41 (by kernel_rfl) (by kernel_rfl) (by simp)
    [.call 65 [.v (.agg (⟨h0, h1, h2, ⟨.slice Ah3 lh3.length ch3, lh3⟩, h4, ⟨h5, h6, ⟨.slice Ah7 lh7.length ch7, lh7⟩⟩, ⟨h8, h9, ⟨.slice Ah10 lh10.length ch10, lh10⟩⟩, ⟨.slice Ah11 lh11.length ch11, lh11⟩⟩ : Hp).cells.toArray)] (.v (.bool (chpaB (⟨h0, h1, h2, ⟨.slice Ah3 lh3.length ch3, lh3⟩, h4, ⟨h5, h6, ⟨.slice Ah7 lh7.length ch7, lh7⟩⟩, ⟨h8, h9, ⟨.slice Ah10 lh10.length ch10, lh10⟩⟩, ⟨.slice Ah11 lh11.length ch11, lh11⟩⟩ : Hp)))), .call 36 [.v (.string name)] (.v (.bool (nmB name))), .call 66 [.v (.agg (Ob.mk 4 name version (⟨w0, w1, w2, ⟨.slice Aw3 lw3.length cw3, lw3⟩, ⟨.slice Aw4 lw4.length cw4, lw4⟩, ⟨.slice Aw5 lw5.length cw5, lw5⟩, w6⟩ : Wl) (⟨p0, p1, p2, p3, p4, p5, ⟨.slice Ap6 lp6.length cp6, lp6⟩, ⟨.slice Ap7 lp7.length cp7, lp7⟩, ⟨.slice Ap8 lp8.length cp8, lp8⟩, p9⟩ : Pd) (⟨n0, n1, n2, ⟨.slice An3 ln3.length cn3, ln3⟩, ⟨.slice An4 ln4.length cn4, ln4⟩, n5, n6⟩ : Nd) (⟨g0, g1, g2, g3, g4, ⟨.slice Ag5 lg5.length cg5, lg5⟩, ⟨.slice Ag6 lg6.length cg6, lg6⟩, g7⟩ : Gr) (⟨h0, h1, h2, ⟨.slice Ah3 lh3.length ch3, lh3⟩, h4, ⟨h5, h6, ⟨.slice Ah7 lh7.length ch7, lh7⟩⟩, ⟨h8, h9, ⟨.slice Ah10 lh10.length ch10, lh10⟩⟩, ⟨.slice Ah11 lh11.length ch11, lh11⟩⟩ : Hp)).cells.toArray)] (.v (.bool (cemptyB (Ob.mk 4 name version (⟨w0, w1, w2, ⟨.slice Aw3 lw3.length cw3, lw3⟩, ⟨.slice Aw4 lw4.length cw4, lw4⟩, ⟨.slice Aw5 lw5.length cw5, lw5⟩, w6⟩ : Wl) (⟨p0, p1, p2, p3, p4, p5, ⟨.slice Ap6 lp6.length cp6, lp6⟩, ⟨.slice Ap7 lp7.length cp7, lp7⟩, ⟨.slice Ap8 lp8.length cp8, lp8⟩, p9⟩ : Pd) (⟨n0, n1, n2, ⟨.slice An3 ln3.length cn3, ln3⟩, ⟨.slice An4 ln4.length cn4, ln4⟩, n5, n6⟩ : Nd) (⟨g0, g1, g2, g3, g4, ⟨.slice Ag5 lg5.length cg5, lg5⟩, ⟨.slice Ag6 lg6.length cg6, lg6⟩, g7⟩ : Gr) (⟨h0, h1, h2, ⟨.slice Ah3 lh3.length ch3, lh3⟩, h4, ⟨h5, h6, ⟨.slice Ah7 lh7.length ch7, lh7⟩⟩, ⟨h8, h9, ⟨.slice Ah10 lh10.length ch10, lh10⟩⟩, ⟨.slice Ah11 lh11.length ch11, lh11⟩⟩ : Hp)))))] [] [.v (ckV (nmB name) (chpaB (⟨h0, h1, h2, ⟨.slice Ah3 lh3.length ch3, lh3⟩, h4, ⟨h5, h6, ⟨.slice Ah7 lh7.length ch7, lh7⟩⟩, ⟨h8, h9, ⟨.slice Ah10 lh10.length ch10, lh10⟩⟩, ⟨.slice Ah11 lh11.length ch11, lh11⟩⟩ : Hp)) (cemptyB (Ob.mk 4 name version (⟨w0, w1, w2, ⟨.slice Aw3 lw3.length cw3, lw3⟩, ⟨.slice Aw4 lw4.length cw4, lw4⟩, ⟨.slice Aw5 lw5.length cw5, lw5⟩, w6⟩ : Wl) (⟨p0, p1, p2, p3, p4, p5, ⟨.slice Ap6 lp6.length cp6, lp6⟩, ⟨.slice Ap7 lp7.length cp7, lp7⟩, ⟨.slice Ap8 lp8.length cp8, lp8⟩, p9⟩ : Pd) (⟨n0, n1, n2, ⟨.slice An3 ln3.length cn3, ln3⟩, ⟨.slice An4 ln4.length cn4, ln4⟩, n5, n6⟩ : Nd) (⟨g0, g1, g2, g3, g4, ⟨.slice Ag5 lg5.length cg5, lg5⟩, ⟨.slice Ag6 lg6.length cg6, lg6⟩, g7⟩ : Gr) (⟨h0, h1, h2, ⟨.slice Ah3 lh3.length ch3, lh3⟩, h4, ⟨h5, h6, ⟨.slice Ah7 lh7.length ch7, lh7⟩⟩, ⟨h8, h9, ⟨.slice Ah10 lh10.length ch10, lh10⟩⟩, ⟨.slice Ah11 lh11.length ch11, lh11⟩⟩ : Hp))))] (by kernel_rfl) (fun p hp => by cases hp) ?_ (fun ρ w' hb => ⟨by rw [ck_res], hb⟩)
  exact paid2_cons (fun ρ _ w1 hb => vhpa_any _ w1 (ho.h.below hb)) (paid2_cons (fun ρ _ w1 hb => (lname_any _ w1 (wfs_max ho.name)).mono fun e w' ⟨h1, h2⟩ => ⟨h1, h2 ▸ Below.refl _ _⟩) (paid2_cons (fun ρ _ w1 hb => vempties_any _ w1 (ho.below hb)) paid2_nil))
set_option maxRecDepth 100000 in
theorem vcheck_no (o : Ob) (w : World) (ho : o.Ok w) (hk : ¬ (0 ≤ o.kind ∧ o.kind ≤ 4)) : Calls Tryz.prog 41 #[.agg o.cells.toArray] w fun e w' => e = .returned (.int .i64 17) ∧ Below w.heap.size w w' := by
  obtain ⟨kind, name, version, ⟨w0, w1, w2, ⟨vw3, lw3⟩, ⟨vw4, lw4⟩, ⟨vw5, lw5⟩, w6⟩, ⟨p0, p1, p2, p3, p4, p5, ⟨vp6, lp6⟩, ⟨vp7, lp7⟩, ⟨vp8, lp8⟩, p9⟩, ⟨n0, n1, n2, ⟨vn3, ln3⟩, ⟨vn4, ln4⟩, n5, n6⟩, ⟨g0, g1, g2, g3, g4, ⟨vg5, lg5⟩, ⟨vg6, lg6⟩, g7⟩, ⟨h0, h1, h2, ⟨vh3, lh3⟩, h4, ⟨h5, h6, ⟨vh7, lh7⟩⟩, ⟨h8, h9, ⟨vh10, lh10⟩⟩, ⟨vh11, lh11⟩⟩⟩ := o
  obtain ⟨Aw3, cw3, rfl⟩ : ∃ A c, vw3 = .slice A lw3.length c := by obtain ⟨A, c, e, _⟩ := ho.w.labels.1; exact ⟨A, c, e⟩
  obtain ⟨Aw4, cw4, rfl⟩ : ∃ A c, vw4 = .slice A lw4.length c := by obtain ⟨A, c, e, _⟩ := ho.w.select.1; exact ⟨A, c, e⟩
  obtain ⟨Aw5, cw5, rfl⟩ : ∃ A c, vw5 = .slice A lw5.length c := by obtain ⟨A, c, e, _⟩ := ho.w.tolerate.1; exact ⟨A, c, e⟩
  obtain ⟨Ap6, cp6, rfl⟩ : ∃ A c, vp6 = .slice A lp6.length c := by obtain ⟨A, c, e, _⟩ := ho.p.labels.1; exact ⟨A, c, e⟩
  obtain ⟨Ap7, cp7, rfl⟩ : ∃ A c, vp7 = .slice A lp7.length c := by obtain ⟨A, c, e, _⟩ := ho.p.select.1; exact ⟨A, c, e⟩
  obtain ⟨Ap8, cp8, rfl⟩ : ∃ A c, vp8 = .slice A lp8.length c := by obtain ⟨A, c, e, _⟩ := ho.p.tolerate.1; exact ⟨A, c, e⟩
  obtain ⟨An3, cn3, rfl⟩ : ∃ A c, vn3 = .slice A ln3.length c := by obtain ⟨A, c, e, _⟩ := ho.n.labels.1; exact ⟨A, c, e⟩
  obtain ⟨An4, cn4, rfl⟩ : ∃ A c, vn4 = .slice A ln4.length c := by obtain ⟨A, c, e, _⟩ := ho.n.taints.1; exact ⟨A, c, e⟩
  obtain ⟨Ag5, cg5, rfl⟩ : ∃ A c, vg5 = .slice A lg5.length c := by obtain ⟨A, c, e, _⟩ := ho.g.labels.1; exact ⟨A, c, e⟩
  obtain ⟨Ag6, cg6, rfl⟩ : ∃ A c, vg6 = .slice A lg6.length c := by obtain ⟨A, c, e, _⟩ := ho.g.taints.1; exact ⟨A, c, e⟩
  obtain ⟨Ah3, ch3, rfl⟩ : ∃ A c, vh3 = .slice A lh3.length c := by obtain ⟨A, c, e, _⟩ := ho.h.metrics.1; exact ⟨A, c, e⟩
  obtain ⟨Ah7, ch7, rfl⟩ : ∃ A c, vh7 = .slice A lh7.length c := by obtain ⟨A, c, e, _⟩ := ho.h.up.policies.1; exact ⟨A, c, e⟩
  obtain ⟨Ah10, ch10, rfl⟩ : ∃ A c, vh10 = .slice A lh10.length c := by obtain ⟨A, c, e, _⟩ := ho.h.down.policies.1; exact ⟨A, c, e⟩
  obtain ⟨Ah11, ch11, rfl⟩ : ∃ A c, vh11 = .slice A lh11.length c := by obtain ⟨A, c, e, _⟩ := ho.h.past.1; exact ⟨A, c, e⟩
  simp only at hk
  have k0 : (kind == 0) = false := by rw [Bool.eq_false_iff]; intro h; have := eq_of_beq h; omega
  have k1 : (kind == 1) = false := by rw [Bool.eq_false_iff]; intro h; have := eq_of_beq h; omega
  have k2 : (kind == 2) = false := by rw [Bool.eq_false_iff]; intro h; have := eq_of_beq h; omega
  have k3 : (kind == 3) = false := by rw [Bool.eq_false_iff]; intro h; have := eq_of_beq h; omega
  have k4 : (kind == 4) = false := by rw [Bool.eq_false_iff]; intro h; have := eq_of_beq h; omega
  refine px_calls (f := 41) (fn := Tryz.f41) (args := [.v (.agg (Ob.mk kind name version (⟨w0, w1, w2, ⟨.slice Aw3 lw3.length cw3, lw3⟩, ⟨.slice Aw4 lw4.length cw4, lw4⟩, ⟨.slice Aw5 lw5.length cw5, lw5⟩, w6⟩ : Wl) (⟨p0, p1, p2, p3, p4, p5, ⟨.slice Ap6 lp6.length cp6, lp6⟩, ⟨.slice Ap7 lp7.length cp7, lp7⟩, ⟨.slice Ap8 lp8.length cp8, lp8⟩, p9⟩ : Pd) (⟨n0, n1, n2, ⟨.slice An3 ln3.length cn3, ln3⟩, ⟨.slice An4 ln4.length cn4, ln4⟩, n5, n6⟩ : Nd) (⟨g0, g1, g2, g3, g4, ⟨.slice Ag5 lg5.length cg5, lg5⟩, ⟨.slice Ag6 lg6.length cg6, lg6⟩, g7⟩ : Gr) (⟨h0, h1, h2, ⟨.slice Ah3 lh3.length ch3, lh3⟩, h4, ⟨h5, h6, ⟨.slice Ah7 lh7.length ch7, lh7⟩⟩, ⟨h8, h9, ⟨.slice Ah10 lh10.length ch10, lh10⟩⟩, ⟨.slice Ah11 lh11.length ch11, lh11⟩⟩ : Hp)).cells.toArray)]) (B := []) (ρ0 := fun _ => (0, 0)) (H := ⟨⟨Tryz.prog, [], aggR, fun _ => none, 44, litIn []⟩, w, fun _ => True, 0, [], fun _ => none, litIn [], fun s => match litIn [6, 11, 16, 21, 26] s with | true => some false | false => none⟩) aggR_ok (fun _ _ _ _ h => h) (by kernel_rfl) Tryz.func41 rfl (by kernel_rfl) (by show (1 : Nat) ≤ 44; decide) rfl (by simp [SV.lt]) trivial (Nat.le_refl _) (fun i b hb => by simp at hb) (fun _ => [])
    ⟨[], [], [(kind == 0, false), (kind == 1, false), (kind == 2, false), (kind == 3, false), (kind == 4, false)]⟩ [.v (.int .i64 17)] (by kernel_rfl) ⟨fun x hx => (by cases hx), fun q hq => (by cases hq), fun p hp => ?_⟩ (fun ρ w' _ hb => ⟨rfl, hb⟩)
  simp only [List.mem_cons, List.not_mem_nil, or_false] at hp
  rcases hp with rfl | rfl | rfl | rfl | rfl
  · exact k0
  · exact k1
  · exact k2
  · exact k3
  · exact k4
end Go.Proofs.YtcbnmoghjhljbaaGreat
end
section
namespace Go.Proofs.YtcbnmoghjhljbaaGreat
open Go.RowKit Go.Proofs.Mem
set_option linter.unusedVariables false
set_option linter.unusedSimpArgs false
def allAt {α : Type} (p : Nat → α → Bool) (l : List α) : Bool := decide (∀ k (h : k < l.length), p k l[k] = true)
def polOk (l : List Pol) : Bool := allAt (fun k x => !(((decide (x.value < 1) || decide (1000000 < x.value)) || decide (x.period < 1)) || decide (1800 < x.period))) l
def goesB (x : Bh) : Bool := polOk x.policies.l && ((((decide (0 ≤ x.window) && decide (x.window ≤ 1800)) && decide (0 ≤ x.pick)) && decide (x.pick ≤ 2)) && decide ((x.policies.l.length : Int) ≤ 4))
end Go.Proofs.YtcbnmoghjhljbaaGreat
end
section
namespace Go.Proofs.YtcbnmoghjhljbaaGreat
open Go.RowKit Go.Proofs.Mem
set_option linter.unusedVariables false
set_option linter.unusedSimpArgs false
def dS (b : Bool) (x : Done) : Bool := (((((b && decide (0 ≤ x.at')) && decide (x.at' ≤ 4611686018427387904)) && decide (0 ≤ x.from')) && decide (x.from' ≤ 1000000)) && decide (0 ≤ x.to')) && decide (x.to' ≤ 1000000)
def dT (b : Bool) (l : List Done) (k : Nat) (h : k < l.length) : Bool := dS b l[k] && (match k, h with
  | 0, _ => true
  | j + 1, h => ((((j + 1 : Nat) : Int) == 0) || decide ((l[j]'(by omega)).at' ≤ l[j + 1].at')))
def accP (b : Bool) (l : List Done) : Nat → Bool
  | 0 => b
  | k + 1 => if h : k < l.length then dT (accP b l k) l k h else false
theorem accP_succ {b : Bool} {l : List Done} {k : Nat} (h : k < l.length) : accP b l (k + 1) = dT (accP b l k) l k h := by
  show (if h : k < l.length then dT (accP b l k) l k h else false) = _
  rw [dif_pos h]
def mT (b : Bool) (x : Met) : Bool := (((((b && decide (0 ≤ x.kind)) && decide (x.kind ≤ 3)) && nmB x.name) && whB x.target) && (x.target != 0)) && (((x.kind != 0) || isS x.name ⟨#[99, 112, 117]⟩) || isS x.name ⟨#[109, 101, 109]⟩)
def accM (b : Bool) (l : List Met) : Nat → Bool
  | 0 => b
  | k + 1 => if h : k < l.length then mT (accM b l k) l[k] else false
theorem accM_succ {b : Bool} {l : List Met} {k : Nat} (h : k < l.length) : accM b l (k + 1) = mT (accM b l k) l[k] := by
  show (if h : k < l.length then mT (accM b l k) l[k] else false) = _
  rw [dif_pos h]
def mayH0 (em : Bool) (x : Hp) : Bool := (((((((((em && nmB x.target) && decide (1 ≤ x.min)) && decide (x.min ≤ x.max)) && decide (x.max ≤ 1000000)) && decide (1 ≤ (x.metrics.l.length : Int))) && decide ((x.metrics.l.length : Int) ≤ 4)) && decide (0 ≤ x.tolerance)) && decide (x.tolerance ≤ 1000)) && goesB x.up) && goesB x.down
def mayH (em : Bool) (x : Hp) : Bool := accM (accP (mayH0 em x) x.past.l x.past.l.length && decide ((x.past.l.length : Int) ≤ 32)) x.metrics.l x.metrics.l.length
end Go.Proofs.YtcbnmoghjhljbaaGreat
end
section
namespace Go.Proofs.YtcbnmoghjhljbaaGreat
open Go.RowKit Go.Proofs.Mem
set_option linter.unusedVariables false
set_option linter.unusedSimpArgs false
theorem less_trans : ∀ {x y z : List UInt8}, Op.bytesLess x y = true → Op.bytesLess y z = true → Op.bytesLess x z = true
  | [], [], _, h, _ => by simp [Op.bytesLess] at h
  | [], _ :: _, [], _, h => by simp [Op.bytesLess] at h
  | [], _ :: _, _ :: _, _, _ => by simp [Op.bytesLess]
  | _ :: _, [], _, h, _ => by simp [Op.bytesLess] at h
  | _ :: _, _ :: _, [], _, h => by simp [Op.bytesLess] at h
  | a :: x, b :: y, c :: z, h1, h2 => by
    simp only [Op.bytesLess, Bool.or_eq_true, Bool.and_eq_true, decide_eq_true_eq, beq_iff_eq] at h1 h2 ⊢
    rcases h1 with h1 | ⟨rfl, h1⟩
    · rcases h2 with h2 | ⟨rfl, h2⟩
      · left; exact UInt8.lt_trans h1 h2
      · left; exact h1
    · rcases h2 with h2 | ⟨rfl, h2⟩
      · left; exact h2
      · right; exact ⟨rfl, less_trans h1 h2⟩
theorem strE_eq (s : ByteArray) : strE s = decide (s = ByteArray.empty) := by
  unfold strE
  have e0 : (⟨#[]⟩ : ByteArray).toList = [] := by rw [ByteArray.toList_eq]
  rw [e0]
  by_cases h : s = ByteArray.empty
  · subst h
    rw [show (ByteArray.empty : ByteArray).toList = [] from e0, decide_eq_true rfl]
    rfl
  · rw [decide_eq_false h]
    exact str_ne' h
theorem kv_eq (k v : ByteArray) : (nmB k && vlB v) = kvB k v := by
  unfold kvB vlB
  rw [strE_eq]
theorem lrAt_zero {l : List Lab} (h : 0 < l.length) : lrAt l 0 h = (nmB l[0].key && vlB l[0].value) := by
  show (!((!(nmB l[0].key) || !(vlB l[0].value)) || false)) = _
  cases nmB l[0].key <;> cases vlB l[0].value <;> rfl
theorem lrAt_succ {l : List Lab} (j : Nat) (h : j + 1 < l.length) : lrAt l (j + 1) h = ((nmB l[j + 1].key && vlB l[j + 1].value) && lessB l[j].key l[j + 1].key) := by
  show (!((!(nmB l[j + 1].key) || !(vlB l[j + 1].value)) || !(lessB l[j].key l[j + 1].key))) = _
  cases nmB l[j + 1].key <;> cases vlB l[j + 1].value <;> cases lessB l[j].key l[j + 1].key <;> rfl
theorem lrOk_iff (l : List Lab) : lrOk l = decide (rtAll l) := by
  unfold lrOk
  apply decide_eq_decide.2
  constructor
  · intro h i hi
    have hkv : kvB l[i].key l[i].value = true := by
      rw [← kv_eq]
      cases i with
      | zero => have := h 0 hi; rw [lrAt_zero] at this; exact this
      | succ j =>
        have := h (j + 1) hi
        rw [lrAt_succ, Bool.and_eq_true] at this
        exact this.1
    refine ⟨hkv, ?_⟩
    clear hkv
    induction i with
    | zero => intro j hj; omega
    | succ i ih =>
      intro j hj
      have h1 := h (i + 1) hi
      rw [lrAt_succ, Bool.and_eq_true] at h1
      rcases Nat.lt_or_eq_of_le (Nat.le_of_lt_succ hj) with h2 | h2
      · exact less_trans (ih (by omega) j h2) h1.2
      · subst h2; exact h1.2
  · intro h k hk
    obtain ⟨h1, h2⟩ := h k hk
    rw [← kv_eq] at h1
    cases k with
    | zero => rw [lrAt_zero]; exact h1
    | succ j => rw [lrAt_succ, h1, h2 j (Nat.lt_succ_self _)]; rfl
theorem lrB_eq (l : List Lab) : lrB l = rtB l := by
  unfold lrB rtB
  rw [lrOk_iff]
  congr 1
  apply decide_eq_decide.2
  omega
theorem askB_eq (x : Req) : (!askB x) = rqB x := by
  unfold askB rqB
  rw [← kv_eq, ← strE_eq]
  by_cases h0 : x.op < 0
  · have e1 : ¬ (x.op = 0 ∨ x.op = 1) := by omega
    have e2 : ¬ (x.op = 2 ∨ x.op = 3) := by omega
    simp [h0, e1, e2]
  · by_cases h3 : 3 < x.op
    · have e1 : ¬ (x.op = 0 ∨ x.op = 1) := by omega
      have e2 : ¬ (x.op = 2 ∨ x.op = 3) := by omega
      simp [h3, e1, e2]
    · by_cases h2 : 2 ≤ x.op
      · have e1 : ¬ (x.op = 0 ∨ x.op = 1) := by omega
        have e2 : (x.op = 2 ∨ x.op = 3) := by omega
        simp only [h0, h3, h2, e1, e2, decide_true, decide_false, Bool.false_or, Bool.true_and]
        cases nmB x.key <;> cases vlB x.value <;> cases strE x.value <;> rfl
      · have e1 : (x.op = 0 ∨ x.op = 1) := by omega
        have e2 : ¬ (x.op = 2 ∨ x.op = 3) := by omega
        simp only [h0, h3, h2, e1, e2, decide_true, decide_false, Bool.false_or, Bool.false_and, Bool.or_false, Bool.true_or, Bool.and_true]
        cases nmB x.key <;> cases vlB x.value <;> rfl
theorem not_any {α : Type} (p q : α → Bool) (h : ∀ x, (!p x) = q x) : ∀ (l : List α), (!(l.any p)) = l.all q
  | [] => rfl
  | x :: r => by
    rw [List.any_cons, List.all_cons, Bool.not_or, not_any p q h r, h]
theorem aksB_eq (l : List Req) : caksB l = aksB l := by
  unfold caksB aksB
  rw [not_any askB rqB askB_eq]
  congr 1
  apply decide_eq_decide.2
  omega
theorem bet_eq (x lo hi : Int) : betB x lo hi = decide (lo ≤ x ∧ x ≤ hi) := by
  unfold betB
  by_cases h1 : lo ≤ x <;> by_cases h2 : x ≤ hi <;> simp [h1, h2]
theorem size_eq (c m : Int) : sizeB c m = szB c m := by
  unfold sizeB szB qrB whB
  rw [bet_eq, bet_eq]
  by_cases h1 : 0 ≤ c ∧ c ≤ 9007199254740992
  · by_cases h2 : c = 0
    · subst h2
      simp
    · have h3 : 0 < c := by omega
      simp [h1, h2, h3]
  · simp [h1]
theorem wants_eq (c m : Int) (L : List Lab) (S : List Req) (T : List Lab) (wm : Int) : cwantsB c m L S T wm = wantsB c m L S T wm := by
  unfold cwantsB wantsB
  rw [size_eq, lrB_eq, aksB_eq, lrB_eq, bet_eq]
  cases szB c m <;> cases rtB L <;> cases aksB S <;> cases rtB T <;> rfl
theorem emOk_eq (k : Int) (hk : 0 ≤ k ∧ k ≤ 4) (W P N G H : Bool) : emOk k (eAt W P N G H) = emAll k W P N G H := by
  have : emOk k (eAt W P N G H) = decide ((((0 : Int) != k) && !W) = false ∧ (((1 : Int) != k) && !P) = false ∧ (((2 : Int) != k) && !N) = false ∧ (((3 : Int) != k) && !G) = false ∧ (((4 : Int) != k) && !H) = false) := by
    unfold emOk
    apply decide_eq_decide.2
    constructor
    · exact fun h => ⟨h 0 (by decide), h 1 (by decide), h 2 (by decide), h 3 (by decide), h 4 (by decide)⟩
    · rintro ⟨h0, h1, h2, h3, h4⟩ i hi
      rcases i with _ | _ | _ | _ | _ | i
      · exact h0
      · exact h1
      · exact h2
      · exact h3
      · exact h4
      · omega
  rw [this]
  unfold emAll
  have hc : k = 0 ∨ k = 1 ∨ k = 2 ∨ k = 3 ∨ k = 4 := by omega
  rcases hc with rfl | rfl | rfl | rfl | rfl <;> cases W <;> cases P <;> cases N <;> cases G <;> cases H <;> rfl
end Go.Proofs.YtcbnmoghjhljbaaGreat
end
section
namespace Go.Proofs.YtcbnmoghjhljbaaGreat
open Go.RowKit Go.Proofs.Mem
set_option linter.unusedVariables false
set_option linter.unusedSimpArgs false
theorem ceH_eq (ta : ByteArray) (mi ma : Int) (n1 n2 : Nat) (to uw up : Int) (nu : Nat) (dw dp : Int) (nd : Nat) : ceH ta mi ma n1 n2 to (cnoL uw up nu) (cnoL dw dp nd) = emH ta mi ma n1 n2 to uw up nu dw dp nd := by
  unfold ceH emH cnoL
  simp only [Bool.and_assoc]
theorem cempty_eq (o : Ob) (hk : 0 ≤ o.kind ∧ o.kind ≤ 4) : cemptyB o = emptyB o := by
  unfold cemptyB emptyB
  rw [emOk_eq _ hk, ceH_eq]
theorem bet_and (x lo hi : Int) : betB x lo hi = (decide (lo ≤ x) && decide (x ≤ hi)) := rfl
theorem work_eq (x : Wl) (em : Bool) : (cworkB x && em) = mayW em x := by
  unfold cworkB mayW
  rw [wants_eq, bet_and]
  generalize wantsB _ _ _ _ _ _ = q
  cases em <;> cases q <;> simp
theorem pod_eq (x : Pd) (em : Bool) : (cpodB x && em) = mayP em x := by
  unfold cpodB cpod1 cpod2 mayP mayP1 vlB
  rw [wants_eq, bet_and, bet_and]
  generalize wantsB _ _ _ _ _ _ = q
  cases em <;> cases q <;> cases nmB x.owner <;> cases strE x.node <;> cases nmB x.node <;> cases (x.phase == 3) <;> cases (x.phase == 0) <;> simp [Bool.and_assoc]
theorem node_eq (x : Nd) (em : Bool) : (cnodeB x && em) = mayN em x := by
  unfold cnodeB mayN vlB
  rw [size_eq, lrB_eq, lrB_eq, bet_and]
  cases em <;> simp [Bool.and_assoc]
theorem group_eq (x : Gr) (em : Bool) : (cgroupB x && em) = mayG em x := by
  unfold cgroupB mayG
  rw [size_eq, lrB_eq, lrB_eq, bet_and, bet_and]
  cases em
  · simp
  · by_cases h1 : x.min ≤ x.target
    · by_cases h2 : x.target ≤ x.max
      · have h3 : x.min ≤ x.max := by omega
        simp [h1, h2, h3, Bool.and_assoc]
      · simp [h1, h2]
    · simp [h1]
theorem all_decide {α : Type} (p : α → Bool) (l : List α) : decide (∀ k (h : k < l.length), p l[k] = true) = l.all p := by
  rw [Bool.eq_iff_iff, decide_eq_true_eq, List.all_eq_true]
  constructor
  · intro h x hx
    obtain ⟨i, hi, rfl⟩ := List.getElem_of_mem hx
    exact h i hi
  · exact fun h k hk => h _ (List.getElem_mem hk)
theorem cpol_eq (x : Pol) : (!(((decide (x.value < 1) || decide (1000000 < x.value)) || decide (x.period < 1)) || decide (1800 < x.period))) = cpolB x := by
  unfold cpolB betB
  rw [Bool.eq_iff_iff]
  simp
  omega
theorem goes_eq (x : Bh) : cbehB x = goesB x := by
  unfold cbehB goesB polOk allPol allAt
  rw [all_decide (fun x : Pol => !(((decide (x.value < 1) || decide (1000000 < x.value)) || decide (x.period < 1)) || decide (1800 < x.period))), bet_and, bet_and,
    not_any (fun x => !(cpolB x)) (fun x : Pol => !(((decide (x.value < 1) || decide (1000000 < x.value)) || decide (x.period < 1)) || decide (1800 < x.period))) (fun x => by rw [cpol_eq, Bool.not_not])]
  rw [Bool.and_comm]
  simp only [Bool.and_assoc]
theorem cmet_eq (x : Met) (b : Bool) : mT b x = (b && cmetB x) := by
  unfold mT cmetB cmet1 cmet2 qrB whB
  rw [bet_and, bet_eq]
  cases b
  · simp
  · simp only [Bool.true_and, bne]
    cases decide (0 ≤ x.kind) <;> cases decide (x.kind ≤ 3) <;> cases nmB x.name <;> cases decide (0 ≤ x.target ∧ x.target ≤ 9007199254740992) <;> cases (x.target == 0) <;> cases (x.kind == 0) <;> cases isS x.name ⟨#[99, 112, 117]⟩ <;> cases isS x.name ⟨#[109, 101, 109]⟩ <;> rfl
theorem accM_eq (b : Bool) (l : List Met) : ∀ n, n ≤ l.length → accM b l n = (b && (l.take n).all cmetB)
  | 0, _ => by simp [accM]
  | n + 1, h => by
    rw [accM_succ (by omega), cmet_eq, accM_eq b l n (by omega), List.take_succ_eq_append_getElem (by omega), List.all_append]
    simp [Bool.and_assoc]
theorem allMet_eq (l : List Met) : allMet l = l.all cmetB := not_any _ _ (fun x => by rw [Bool.not_not]) l
theorem pastAt_eq {l : List Done} (k : Nat) (h : k < l.length) : pastAt l k h = ((betB l[k].at' (lastOf l k) 4611686018427387904 && betB l[k].from' 0 1000000) && betB l[k].to' 0 1000000) := by
  unfold pastAt
  generalize betB l[k].at' _ _ = a
  generalize betB l[k].from' _ _ = b
  generalize betB l[k].to' _ _ = c
  cases a <;> cases b <;> cases c <;> rfl
theorem past_low {l : List Done} {k : Nat} {hk : k < l.length} (h : pastAt l k hk = true) : lastOf l k ≤ l[k].at' := by
  rw [pastAt_eq] at h
  unfold betB at h
  simp only [Bool.and_eq_true, decide_eq_true_eq] at h
  exact h.1.1.1
theorem past_pos {l : List Done} {n : Nat} (hall : ∀ k (h : k < l.length), k < n → pastAt l k h = true) : ∀ k (h : k < l.length), k < n → 0 ≤ l[k].at'
  | 0, h, hk => past_low (hall 0 h hk)
  | k + 1, h, hk => by
    have h1 := past_pos hall k (by omega) (by omega)
    have h2 := past_low (hall (k + 1) h hk)
    rw [lastOf_succ k (by omega)] at h2
    omega
theorem accP_iff (l : List Done) : ∀ n (b : Bool), n ≤ l.length → (accP b l n = true ↔ b = true ∧ ∀ k (h : k < l.length), k < n → pastAt l k h = true)
  | 0, b, _ => ⟨fun h => ⟨h, fun k h hk => by omega⟩, fun h => h.1⟩
  | n + 1, b, hn => by
    rw [accP_succ (by omega)]
    have ih := accP_iff l n b (by omega)
    have step : (∀ k (h : k < l.length), k < n → pastAt l k h = true) → (dT true l n (by omega) = true ↔ pastAt l n (by omega) = true) := by
      intro hall
      rw [pastAt_eq]
      unfold dT dS betB
      cases n with
      | zero =>
        have e0 : lastOf l 0 = 0 := rfl
        simp only [e0, Bool.and_eq_true, decide_eq_true_eq, true_and, and_true]
        omega
      | succ j =>
        have hj := past_pos hall j (by omega) (Nat.lt_succ_self _)
        have hne : ((((j + 1 : Nat) : Int) == 0)) = false := by rw [Bool.eq_false_iff]; intro h; have := eq_of_beq h; omega
        rw [lastOf_succ j (by omega)]
        simp only [hne, Bool.false_or, Bool.and_eq_true, decide_eq_true_eq, true_and]
        omega
    cases hb : accP b l n with
    | false =>
      have : ¬ (b = true ∧ ∀ k (h : k < l.length), k < n → pastAt l k h = true) := fun h => by rw [ih.2 h] at hb; cases hb
      constructor
      · intro h; unfold dT dS at h; simp at h
      · rintro ⟨h1, h2⟩
        exact absurd ⟨h1, fun k h hk => h2 k h (by omega)⟩ this
    | true =>
      obtain ⟨h1, h2⟩ := ih.1 hb
      rw [step h2]
      constructor
      · intro h
        refine ⟨h1, fun k hk hk' => ?_⟩
        rcases Nat.lt_or_eq_of_le (Nat.le_of_lt_succ hk') with h3 | h3
        · exact h2 k hk h3
        · subst h3; exact h
      · exact fun h => h.2 n (by omega) (Nat.lt_succ_self _)
theorem accP_eq (l : List Done) (b : Bool) : accP b l l.length = (b && pastOk l) := by
  rw [Bool.eq_iff_iff, accP_iff l l.length b (Nat.le_refl _), Bool.and_eq_true]
  unfold pastOk
  rw [decide_eq_true_eq]
  exact ⟨fun h => ⟨h.1, fun k hk => h.2 k hk hk⟩, fun h => ⟨h.1, fun k hk _ => h.2 k hk⟩⟩
theorem hpa_eq (x : Hp) (em : Bool) : (chpaB x && em) = mayH em x := by
  unfold chpaB mayH mayH0 cpastB
  rw [accM_eq _ _ _ (Nat.le_refl _), List.take_length, accP_eq, goes_eq, goes_eq, allMet_eq, bet_and, bet_and]
  cases em
  · simp
  · simp only [Bool.and_true, Bool.true_and]
    generalize nmB x.target = a1
    generalize decide (1 ≤ x.min) = a2
    generalize decide (x.min ≤ x.max) = a3
    generalize decide (x.max ≤ 1000000) = a4
    generalize decide (1 ≤ (x.metrics.l.length : Int)) = a5
    generalize decide ((x.metrics.l.length : Int) ≤ 4) = a6
    generalize x.metrics.l.all cmetB = a7
    generalize decide (0 ≤ x.tolerance) = a8
    generalize decide (x.tolerance ≤ 1000) = a9
    generalize goesB x.up = a10
    generalize goesB x.down = a11
    generalize pastOk x.past.l = a12
    generalize decide ((x.past.l.length : Int) ≤ 32) = a13
    cases a7
    · simp
    · simp [Bool.and_assoc]
def mayO (o : Ob) : Bool := if o.kind = 0 then mayW (emptyB o) o.w else if o.kind = 1 then mayP (emptyB o) o.p else if o.kind = 2 then mayN (emptyB o) o.n else if o.kind = 3 then mayG (emptyB o) o.g else mayH (emptyB o) o.h
def errO (o : Ob) : Int := if 0 ≤ o.kind ∧ o.kind ≤ 4 then errN o.name (mayO o) else 17
theorem check_any (o : Ob) (w : World) (ho : o.Ok w) : Calls Tryz.prog 41 #[.agg o.cells.toArray] w fun e w' => e = .returned (.int .i64 (errO o)) ∧ Below w.heap.size w w' := by
  by_cases hk : 0 ≤ o.kind ∧ o.kind ≤ 4
  · have e1 : errO o = errN o.name (mayO o) := if_pos hk
    rw [e1]
    have hc : o.kind = 0 ∨ o.kind = 1 ∨ o.kind = 2 ∨ o.kind = 3 ∨ o.kind = 4 := by omega
    rcases hc with h | h | h | h | h
    · rw [show mayO o = mayW (emptyB o) o.w by unfold mayO; simp [h], ← work_eq, ← cempty_eq o hk]
      exact vcheck_0 o w ho h
    · rw [show mayO o = mayP (emptyB o) o.p by unfold mayO; simp [h], ← pod_eq, ← cempty_eq o hk]
      exact vcheck_1 o w ho h
    · rw [show mayO o = mayN (emptyB o) o.n by unfold mayO; simp [h], ← node_eq, ← cempty_eq o hk]
      exact vcheck_2 o w ho h
    · rw [show mayO o = mayG (emptyB o) o.g by unfold mayO; simp [h], ← group_eq, ← cempty_eq o hk]
      exact vcheck_3 o w ho h
    · rw [show mayO o = mayH (emptyB o) o.h by unfold mayO; simp [h], ← hpa_eq, ← cempty_eq o hk]
      exact vcheck_4 o w ho h
  · rw [show errO o = 17 from if_neg hk]
    exact vcheck_no o w ho hk
end Go.Proofs.YtcbnmoghjhljbaaGreat
end
section
namespace Go.Proofs.YtcbnmoghjhljbaaGreat
open Go.RowKit Go.Proofs.Mem
set_option linter.unusedVariables false
set_option linter.unusedSimpArgs false
end Go.Proofs.YtcbnmoghjhljbaaGreat
end
section
namespace Go.Proofs.Mem
set_option linter.unusedVariables false
open Go.RowKit
open Go.Maps (Keyed)

def asIs (v : Value) : Option (DataW Value × List MemPlace) := some (.held v, [])
def Mp (P : Program) (w : World) (k : TypeId) (b n : Nat) (D : DataW Value) : Prop := w.ownsMap P k asIs b n D
def valAt (D : DataW Value) (kl : Lit) (z : Value) : Value := match D.atKey kl (.held z) with | .held v => v | _ => z

theorem valAt_of {D : DataW Value} {kl : Lit} {z v : Value} {ps : List MemPlace} (h : asIs v = some (D.atKey kl (.held z), ps)) : v = valAt D kl z := by
  unfold asIs at h
  injection h with h
  injection h with h1 h2
  unfold valAt
  rw [← h1]
theorem valAt_put_same {D : DataW Value} {k : Lit} (hD : Maps.IsMap D) (hk : WideAt.IsKeyLit k) (v z : Value) : valAt (D.put k (.held v)) k z = v := by
  unfold valAt; rw [Maps.atKey_put_same hD hk]
theorem valAt_put_other {D : DataW Value} {k k' : Lit} (hne : k' ≠ k) (v z : Value) : valAt (D.put k (.held v)) k' z = valAt D k' z := by
  unfold valAt; rw [Maps.atKey_put_other hne]
theorem valAt_del_same {D : DataW Value} {k : Lit} (z : Value) : valAt (D.del k) k z = z := by
  unfold valAt; rw [Maps.atKey_del_same]
theorem valAt_del_other {D : DataW Value} {k k' : Lit} (hne : k' ≠ k) (z : Value) : valAt (D.del k) k' z = valAt D k' z := by
  unfold valAt; rw [Maps.atKey_del_other hne]
theorem valAt_not {D : DataW Value} {k : Lit} (h : Maps.has D k = false) (z : Value) : valAt D k z = z := by
  unfold valAt; rw [Maps.atKey_of_not_has h]

section
variable {P : Program} {w w' : World} {k : TypeId} {b n : Nat} {D : DataW Value}
theorem Mp.made (w : World) (P : Program) (k : TypeId) : Mp P (w.alloc (.map #[] 0)) k w.heap.size 0 (.map []) := World.ownsMap_made w P k asIs
theorem Mp.lt (h : Mp P w k b n D) : b < w.heap.size := World.ownsMap.lt h
theorem Mp.isMap (h : Mp P w k b n D) : Maps.IsMap D := World.ownsMap.isMap h
theorem Mp.tidy (h : Mp P w k b n D) (K : Keyed P k) : Maps.Tidy D := World.ownsMap.tidy h K
theorem Mp.drew (h : Mp P w k b n D) : Mp P w.drew k b n D := h
theorem Mp.drewN (h : Mp P w k b n D) (i : Nat) : Mp P (w.drewN i) k b n D := h
theorem Mp.of_block (h : Mp P w k b n D) (hb : w'.heap[b]? = w.heap[b]?) : Mp P w' k b n D := by
  obtain ⟨es, clock, h1, h2, h3, h4⟩ := h
  exact ⟨es, clock, hb.trans h1, h2, h3, h4⟩
theorem Mp.alloc (h : Mp P w k b n D) (o : Obj) : Mp P (w.alloc o) k b n D := World.ownsMap.alloc h o
theorem Mp.below (h : Mp P w k b n D) (hb : Below w.heap.size w w') : Mp P w' k b n D := h.of_block (hb.block b h.lt)
theorem Mp.grown (h : Mp P w k b n D) {row : Option Nat} (hb : w.grownBy w' row) (hg : some b ≠ row) : Mp P w' k b n D := World.ownsMap.kept h hb hg
theorem Mp.setCell (h : Mp P w k b n D) {a : Addr} (ha : b ≠ a.block) (u : Value) : Mp P (w.setCell a u) k b n D := World.ownsMap.setCell h ha u
theorem Mp.run_look (h : Mp P w k b n D) {t e : TypeId} (K : Keyed P k) (ht : P.underlying t = some (.map k e)) {z : Value} (hz : (zeroValue e).run P w = .ok z w) {key : Value} {kl : Lit} (hkey : keyOf P k key = some kl) :
    (Instr.lookup t (.map (some b)) key false).run P w = .ok (valAt D kl z) w := by
  obtain ⟨v, ps, hrun, hv⟩ := World.ownsMap.lookup h K ht hz (zd := .held z) (zp := []) rfl hkey
  rw [hrun, valAt_of hv]
theorem Mp.run_look_ok (h : Mp P w k b n D) {t e : TypeId} (K : Keyed P k) (ht : P.underlying t = some (.map k e)) {z : Value} (hz : (zeroValue e).run P w = .ok z w) {key : Value} {kl : Lit} (hkey : keyOf P k key = some kl) :
    (Instr.lookup t (.map (some b)) key true).run P w = .ok (.tuple #[valAt D kl z, .bool (Maps.has D kl)]) w := by
  obtain ⟨v, ps, hrun, hv⟩ := World.ownsMap.look_ok h K ht hz (zd := .held z) (zp := []) rfl hkey
  rw [hrun, valAt_of hv]
end

section
variable {P : Program} {w : World} {ops : Array Oper} {rest : List Oper} {o : Oper} {a : Act} {Q : Exit → Act → World → Prop}
theorem wpl_look_ok (hg : o.guard = none) (m x : Operand) (t : TypeId) (hop : o.op = Op.lookup t m x true)
    (k e : TypeId) (K : Keyed P k) (ht : P.underlying t = some (.map k e)) {z : Value} (hz : ∀ w, (zeroValue e).run P w = .ok z w) (b n : Nat) (D : DataW Value)
    (hm : a.eval m = .map (some b)) (hown : Mp P w k b n D) (key : Value) (kl : Lit) (hx : a.eval x = key) (hkey : keyOf P k key = some kl)
    (hK : wpList P ops Q rest (a.put o.dst (.tuple #[valAt D kl z, .bool (Maps.has D kl)])) w) : wpList P ops Q (o :: rest) a w := by
  refine wpList_plain hg fun K' hK' => ?_
  have hrun := hown.run_look_ok K ht (hz w) hkey
  unfold Oper.wp
  simp [execOp, hop, hm, hx, hrun, Result.andThen]
  exact hK' _ _ hK
theorem wpl_store_map (hg : o.guard = none) (m x v : Operand) (t : TypeId) (hop : o.op = Op.mapUpdate t m x v)
    (k e : TypeId) (K : Keyed P k) (ht : P.underlying t = some (.map k e)) (b n : Nat) (D : DataW Value)
    (hm : a.eval m = .map (some b)) (hown : Mp P w k b n D) (hn : n < maxLen) (key val : Value) (kl : Lit) (hx : a.eval x = key) (hv : a.eval v = val) (hkey : keyOf P k key = some kl)
    (hK : ∀ w', Mp P w' k b (n + 1) (D.put kl (.held val)) → w.grownBy w' (some b) → w'.heap.size = w.heap.size → wpList P ops Q rest (a.put o.dst undef) w') :
    wpList P ops Q (o :: rest) a w := by
  refine wpList_plain hg fun K' hK' => ?_
  obtain ⟨w', hrun, r1, r2⟩ := World.ownsMap.store hown K ht hn hkey (val := val) (d := .held val) (ps := []) rfl
  have r3 := r2.grown
  have r4 : w'.heap.size = w.heap.size := by
    obtain ⟨es, clock, es', clock', hb, rfl⟩ := r2
    simp [ChangeMaps.setBlock]
  unfold Oper.wp
  simp [execOp, hop, hm, hx, hv, hrun, Result.andThen]
  exact hK' _ _ (hK w' r1 r3 r4)
theorem wpl_delete_map (hg : o.guard = none) (m x : Operand) (t k : TypeId) (hop : o.op = Op.call { callee := Callee.builtin Builtin.delete, args := #[m, x], argTypes := #[t, k] })
    (e : TypeId) (K : Keyed P k) (ht : P.underlying t = some (.map k e)) (b n : Nat) (D : DataW Value)
    (hm : a.eval m = .map (some b)) (hown : Mp P w k b n D) (key : Value) (kl : Lit) (hx : a.eval x = key) (hkey : keyOf P k key = some kl)
    (hK : ∀ w', Mp P w' k b n (D.del kl) → w.grownBy w' (some b) → w'.heap.size = w.heap.size → wpList P ops Q rest (a.put o.dst (.tuple #[])) w') :
    wpList P ops Q (o :: rest) a w :=
  wpList_delete_own w hg m x t k hop e K ht asIs b n D hm hown key kl hx hkey fun w' r1 r2 => hK w' r1 r2.grown (by
    obtain ⟨es, clock, es', clock', hb, rfl⟩ := r2
    simp [ChangeMaps.setBlock])
theorem wpl_len_map (hg : o.guard = none) (m : Operand) (t : TypeId) (hop : o.op = Op.call { callee := Callee.builtin Builtin.len, args := #[m], argTypes := #[t] })
    (k e : TypeId) (ht : P.underlying t = some (.map k e)) (b n : Nat) (D : DataW Value) (hm : a.eval m = .map (some b)) (hown : Mp P w k b n D)
    (hK : wpList P ops Q rest (a.put o.dst (.int .i64 (Maps.size D))) w) : wpList P ops Q (o :: rest) a w :=
  wpList_len_own w hg m t hop k e ht asIs b n D hm hown hK
end
section
variable {P : Program} {w : World} {k : TypeId} {b n : Nat} {D : DataW Value}
end
section
variable {b f : Nat} {w w1 w2 : World}
end
theorem keyLit_string (s : List UInt8) : WideAt.IsKeyLit (.string s) := by simp [WideAt.IsKeyLit]
end Go.Proofs.Mem
end
section
namespace Go.Proofs.YtcbnmoghjhljbaaGreat
open Go.RowKit Go.Proofs.Mem
set_option linter.unusedVariables false
set_option linter.unusedSimpArgs false
theorem own_block {w w' : World} {base : Nat} {e : TypeId} {size n : Nat} {v : Value} {xs : List Value} (h : w.ownsRow base e size v n xs) (hb : ∀ g, v.ownBlock = some g → w'.heap[g]? = w.heap[g]?) : w'.ownsRow base e size v n xs := by
  obtain ⟨hl, h2⟩ := h
  refine ⟨hl, ?_⟩
  rcases h2 with h2 | ⟨g, cap, cur, hv, hg, hh, r⟩
  · exact .inl h2
  · exact .inr ⟨g, cap, cur, hv, hg, (hb g (by rw [hv]; rfl)).trans hh, r⟩
structure Ev where
  ty : Int
  kind : Int
  name : ByteArray
  ver : Nat
def Ev.cells (x : Ev) : List Value := [.int .i64 x.ty, .int .i64 x.kind, .string x.name, .int .u64 x.ver]
def StIs (w : World) (p b n : Nat) (D : DataW Value) (most : Int) (now : Nat) (ev : Value) (evs : List Ev) : Prop :=
  (b < p ∧ ev.ownBlock ≠ some p) ∧ Bk w p 89 #[.int .i64 most, .map (some b), .int .u64 now, ev] ∧ Mp Tryz.prog w 92 b n D ∧ w.ownsRow (b + 1) 95 4 ev evs.length (evs.flatMap Ev.cells)
def T3 (p b : Nat) (ev : Value) (w w' : World) : Prop := w'.os = w.os ∧ w'.tape = w.tape ∧ w'.output = w.output ∧ w.heap.size ≤ w'.heap.size ∧ ∀ i, i < w.heap.size → i ≠ p → i ≠ b → some i ≠ ev.ownBlock → w'.heap[i]? = w.heap[i]?
def EvTo (w : World) (ev ev' : Value) : Prop := ev'.ownBlock = ev.ownBlock ∨ ∃ g, w.heap.size ≤ g ∧ ev'.ownBlock = some g
section
variable {p b : Nat} {ev ev1 : Value} {w w1 w2 : World}
theorem T3.of_below (h : Below w.heap.size w w1) : T3 p b ev w w1 := ⟨h.os, h.tape, h.output, h.size, fun i hi _ _ _ => h.block i hi⟩
theorem T3.size (h : T3 p b ev w w1) : w.heap.size ≤ w1.heap.size := h.2.2.2.1
theorem T3.trans (h : T3 p b ev w w1) (he : EvTo w ev ev1) (h' : T3 p b ev1 w1 w2) : T3 p b ev w w2 :=
  ⟨h'.1.trans h.1, h'.2.1.trans h.2.1, h'.2.2.1.trans h.2.2.1, Nat.le_trans h.size h'.size, fun i hi h1 h2 h3 => (h'.2.2.2.2 i (Nat.lt_of_lt_of_le hi h.size) h1 h2 (by
    rcases he with he | ⟨g, hg, he⟩
    · rw [he]; exact h3
    · rw [he]; simp; omega)).trans (h.2.2.2.2 i hi h1 h2 h3)⟩
theorem T3.setP (h : T3 p b ev w w1) (k : Nat) (v : Value) : T3 p b ev w (w1.setCell ⟨p, k, none⟩ v) :=
  ⟨h.1, h.2.1, h.2.2.1, by have := h.size; simp [World.setCell]; omega, fun i hi h1 h2 h3 => (Below.heap_setCell w1 _ v i (fun e => h1 e)).trans (h.2.2.2.2 i hi h1 h2 h3)⟩
theorem T3.setNew (h : T3 p b ev w w1) {a : Addr} (ha : w.heap.size ≤ a.block) (v : Value) : T3 p b ev w (w1.setCell a v) :=
  ⟨h.1, h.2.1, h.2.2.1, by have := h.size; simp [World.setCell]; omega, fun i hi h1 h2 h3 => (Below.heap_setCell w1 _ v i (by omega)).trans (h.2.2.2.2 i hi h1 h2 h3)⟩
theorem T3.grownB (h : w.grownBy w1 (some b)) : T3 p b ev w w1 := ⟨h.os, h.tape, h.output, h.size, fun i hi _ h2 _ => h.block i hi (by simpa using h2)⟩
theorem T3.grownE (h : w.grownBy w1 ev.ownBlock) : T3 p b ev w w1 := ⟨h.os, h.tape, h.output, h.size, fun i hi _ _ h3 => h.block i hi h3⟩
theorem T3.bk (h : T3 p b ev w w1) {g : Nat} {t : TypeId} {cs : Array Value} (hk : Bk w g t cs) (h1 : g ≠ p) (h2 : g ≠ b) (h3 : some g ≠ ev.ownBlock) : Bk w1 g t cs := (h.2.2.2.2 g hk.lt h1 h2 h3).trans hk
theorem EvTo.refl (w : World) (ev : Value) : EvTo w ev ev := .inl rfl
theorem EvTo.trans {ev2 : Value} (hs : w.heap.size ≤ w1.heap.size) (h : EvTo w ev ev1) (h' : EvTo w1 ev1 ev2) : EvTo w ev ev2 := by
  rcases h' with h' | ⟨g, hg, h'⟩
  · rcases h with h | ⟨g, hg, h⟩
    · exact .inl (h'.trans h)
    · exact .inr ⟨g, hg, h'.trans h⟩
  · exact .inr ⟨g, Nat.le_trans hs hg, h'⟩
end
section
variable {w w' : World} {p b n now : Nat} {D : DataW Value} {most : Int} {ev : Value} {evs : List Ev}
theorem StIs.below (h : StIs w p b n D most now ev evs) (hb : Below w.heap.size w w') : StIs w' p b n D most now ev evs :=
  ⟨h.1, h.2.1.below' hb, h.2.2.1.below hb, own_below h.2.2.2 hb⟩
theorem StIs.cells (h : StIs w p b n D most now ev evs) : w.cell? ⟨p, 0, none⟩ = some (.int .i64 most) ∧ w.cell? ⟨p, 1, none⟩ = some (.map (some b)) ∧ w.cell? ⟨p, 2, none⟩ = some (.int .u64 now) ∧ w.cell? ⟨p, 3, none⟩ = some ev :=
  ⟨h.2.1.cell 0, h.2.1.cell 1, h.2.1.cell 2, h.2.1.cell 3⟩
theorem StIs.evGe (h : StIs w p b n D most now ev evs) {g : Nat} (hg : ev.ownBlock = some g) : (b < g ∧ g ≠ p) ∧ g < w.heap.size := by
  have := h.2.2.2.lt g hg
  exact ⟨⟨by omega, fun e => h.1.2 (e ▸ hg)⟩, this.2⟩
end
def NewSt (most : Int) (w : World) (e : Ending) (w' : World) : Prop :=
  ∃ p b : Nat, e = .returned (.tuple #[.pointer (some ⟨p, 0, none⟩), .int .i64 0]) ∧ w.heap.size ≤ b ∧ StIs w' p b 0 (.map []) most 0 (.slice none 0 0) [] ∧ Below w.heap.size w w'
theorem snew_any (most : Int) (w : World) (h1 : 1 ≤ most) (h2 : most ≤ 512) : Calls Tryz.prog 21 #[.int .i64 most] w (NewSt most w) := by
  have hmm := @run_makeMap Tryz.prog
  go_enter Tryz.func21, Tryz.ntmps21
  go_wp2_with fail
  go_ret2
  have h1 := Mp.made w Tryz.prog 92
  have h2 := Bk.new (w.alloc (.map #[] 0)) 89 #[.int .i64 most, .map (some w.heap.size), .int .u64 0, .slice none 0 0]
  rw [World.size_alloc] at h2
  exact ⟨_, w.heap.size, rfl, Nat.le_refl _, ⟨⟨by omega, fun e => by cases e⟩, h2, h1.alloc _, ⟨rfl, .inl ⟨rfl, rfl⟩⟩⟩, ((Below.refl _ _).alloc (Nat.le_refl _) _).alloc (by simp) _⟩
end Go.Proofs.YtcbnmoghjhljbaaGreat
end
section
namespace Go.Proofs.YtcbnmoghjhljbaaGreat
open Go.RowKit Go.Proofs.Mem
set_option linter.unusedVariables false
set_option linter.unusedSimpArgs false
theorem info_ev : (Tryz.prog.info? 95).map (fun i => (i.zero, i.size, i.bytes)) = some (some (.agg #[.int .i64 0, .int .i64 0, .string ⟨#[]⟩, .int .u64 0]), 4, 40) := by kernel_rfl
def nextEvs (evs : List Ev) (x : Ev) : List Ev := if evs.length < 1024 then evs ++ [x] else evs.drop 1 ++ [x]
def NoteSt (p b n : Nat) (D : DataW Value) (most : Int) (now : Nat) (ev : Value) (evs : List Ev) (x : Ev) (w : World) (e : Ending) (w' : World) : Prop :=
  ∃ ev', e = .returned (.int .u64 ((now + 1 : Nat) : Int)) ∧ StIs w' p b n D most (now + 1) ev' (nextEvs evs x) ∧ T3 p b ev w w' ∧ EvTo w ev ev'
set_option maxHeartbeats 2000000 in
set_option maxRecDepth 100000 in
theorem note_lt (w : World) (p b n : Nat) (D : DataW Value) (most : Int) (now : Nat) (ev : Value) (evs : List Ev) (h : StIs w p b n D most now ev evs) (hn : now < 1000000000) (hl : evs.length < 1024) (what kind : Int) (name : ByteArray) :
    Calls Tryz.prog 67 #[.pointer (some ⟨p, 0, none⟩), .int .i64 what, .agg #[.int .i64 kind, .string name]] w (NoteSt p b n D most now ev evs ⟨what, kind, name, now + 1⟩ w) := by
  obtain ⟨ti, hi0, hz0, hz1, hz2⟩ := info_parts info_ev
  have hz1' := hz1
  have g1 : (now : Int) < 1000000000 := by omega
  have g2 : (evs.length : Int) + 1 ≤ 1024 := by omega
  have hne1 : nextEvs evs ⟨what, kind, name, now + 1⟩ = evs ++ [⟨what, kind, name, now + 1⟩] := if_pos hl
  unfold NoteSt
  rw [hne1]
  clear hne1
  have HS := Lib.hid h
  obtain ⟨d0, d1, d2, d3⟩ := h.cells
  have f2 := h.2.1.frozen 2
  have hpl := h.2.1.lt
  clear h hn hl
  go_enter Tryz.func67, Tryz.ntmps67
  have hca : ∀ o, (w.alloc o).cell? ⟨p, 2, none⟩ = some (.int .u64 now) := fun o => (HS.out.2.1.alloc o).cell 2
  have hfa : ∀ o, (w.alloc o).frozen? ⟨p, 2, none⟩ = false := fun o => (HS.out.2.1.alloc o).frozen 2
  go_wp2_with fail
  have kk := Bk.new (w.setCell ⟨p, 2, none⟩ (.int .u64 ((now : Int) + 1))) 92 #[.int .i64 kind, .string name]
  have kp := (HS.out.2.1.set 2 (.int .u64 ((now : Int) + 1))).alloc (.cells #[.int .i64 kind, .string name] 92)
  have hT2 : T3 p b ev w ((w.setCell ⟨p, 2, none⟩ (.int .u64 ((now : Int) + 1))).alloc (.cells #[.int .i64 kind, .string name] 92)) := ((T3.of_below (Below.refl _ _)).setP 2 _).trans (EvTo.refl _ _) (T3.of_below ((Below.refl _ _).alloc (Nat.le_refl _) _))
  have hown : ((w.setCell ⟨p, 2, none⟩ (.int .u64 ((now : Int) + 1))).alloc (.cells #[.int .i64 kind, .string name] 92)).ownsRow (b + 1) 95 4 ev evs.length (evs.flatMap Ev.cells) := by
    refine own_block HS.out.2.2.2 fun g hg => ?_
    have hge := HS.out.evGe hg
    exact (Below.heap_alloc _ _ g (by rw [World.size_setCell]; omega)).trans (Below.heap_setCell _ _ _ _ (by simp; omega))
  have hm2 : Mp Tryz.prog ((w.setCell ⟨p, 2, none⟩ (.int .u64 ((now : Int) + 1))).alloc (.cells #[.int .i64 kind, .string name] 92)) 92 b n D := (HS.out.2.2.1.setCell (by have := HS.out.1; simp; omega) _).alloc _
  rw [World.size_setCell] at kk
  simp at kp
  generalize (w.setCell ⟨p, 2, none⟩ (.int .u64 ((now : Int) + 1))).alloc (.cells #[.int .i64 kind, .string name] 92) = w2 at kk kp hT2 hown hm2 ⊢
  have k0 := kk.cell 0
  have k1 := kk.cell 1
  have p0 := kp.cell 0
  have p1 := kp.cell 1
  have p2 := kp.cell 2
  have p3 := kp.cell 3
  have q3 := kp.frozen 3
  have HO := Lib.hid hown
  clear hown d0 d1 d2 d3 f2 hca hfa
  have hevl : evs.length + 1 ≤ maxLen := by unfold maxLen; omega
  have hevb : (evs.length + 1) * 40 ≤ 140737488355328 := by omega
  have s2 : ∀ o, (w2.alloc o).cell? ⟨p, 2, none⟩ = some (.int .u64 ((now : Int) + 1)) := fun o => (kp.alloc o).cell 2
  have s3 : ∀ o, (w2.alloc o).cell? ⟨p, 3, none⟩ = some ev := fun o => (kp.alloc o).cell 3
  have t0 : ∀ o, (w2.alloc o).cell? ⟨w.heap.size, 0, none⟩ = some (.int .i64 kind) := fun o => (kk.alloc o).cell 0
  have t1 : ∀ o, (w2.alloc o).cell? ⟨w.heap.size, 1, none⟩ = some (.string name) := fun o => (kk.alloc o).cell 1
  have hne : some p ≠ ev.ownBlock := fun e => by have := HS.out.evGe e.symm; omega
  have hbs : b + 1 ≤ w2.heap.size + 1 := by have := kp.lt; have := HS.out.1.1; omega
  have hkne : some w.heap.size ≠ ev.ownBlock := fun e => by have := HS.out.evGe e.symm; omega
  refine wp_region_reads 15 2 (fun w' => w'.cell? ⟨p, 2, none⟩ = some (.int .u64 ((now : Int) + 1)) ∧ w'.cell? ⟨w.heap.size, 0, none⟩ = some (.int .i64 kind) ∧ w'.cell? ⟨w.heap.size, 1, none⟩ = some (.string name) ∧ w'.cell? ⟨p, 3, none⟩ = some ev) (by kernel_rfl) (by kernel_rfl) (fun c a d v w h => by cases d <;> exact h) ⟨p2, k0, k1, p3⟩ ?_
  simp only [List.take_succ_cons, List.take_zero, List.drop_succ_cons, List.drop_zero]
  iterate 15
    refine reads_step (v := ?_) (by rfl) (fun w' hS => ?_) ?_
    rotate_left
    · have u2 := hS.1
      have v0 := hS.2.1
      have v1 := hS.2.2.1
      have u3 := hS.2.2.2
      clear hS
      go_simp
      with_reducible rfl
    simp only [Act.put, List.setIfInBounds_toArray, List.set_cons_zero, List.set_cons_succ]
  refine reads_nil ?_
  refine early_step rfl (by rfl) ?_
  go_simp
  refine early_step rfl (by rfl) ?_
  refine wp_append_lies _ (.tmp 18) (.tmp 29) 87 rfl (b + 1) 95 ti _ 4 40 Tryz.underlying87 hi0 hz0 hz1 hz2 rfl (by omega) ev evs.length (evs.flatMap Ev.cells) rfl ((HO.out.alloc _).drew) ⟨w2.heap.size, 0, none⟩ 1 1 [.int .i64 what, .int .i64 kind, .string name, .int .u64 ((now : Int) + 1)] rfl rfl (World.news_of_block (cs := #[.int .i64 what, .int .i64 kind, .string name, .int .u64 ((now : Int) + 1)]) (t := 95) (fr := (0, 0)) (heap_alloc_new w2 _)) (by simp [Value.oneCell']) (by omega) hevl hevb (by simp; omega) (w2.heap.size + 1) (by simp) ?_
  intro g cap w3 hown3 hg3 hat hlt
  have kp3 := ((kp.alloc (.cells #[.int .i64 what, .int .i64 kind, .string name, .int .u64 ((now : Int) + 1)] 95)).drew).grown hg3 hne
  have kk3 := ((kk.alloc (.cells #[.int .i64 what, .int .i64 kind, .string name, .int .u64 ((now : Int) + 1)] 95)).drew).grown hg3 hkne
  have r2 := kp3.cell 2
  have r3 := kp3.cell 3
  have r4 := kp3.frozen 3
  refine ⟨⟨r2, kk3.cell 0, kk3.cell 1, r3⟩, ?_⟩
  simp only [wpEarly]
  have HG3 := Lib.hid hg3
  have HA3 := Lib.hid hat
  have HO3 := Lib.hid hown3
  clear hg3 hat hown3 s2 s3 t0 t1 kk3 hevl hevb
  obtain ⟨N, hN⟩ : ∃ N, N = evs.length + 1 := ⟨_, rfl⟩
  rw [← hN]
  have g3 : (N : Int) ≤ 1024 := by omega
  have HN := Lib.hid hN
  clear hN g2 hne hkne hbs hi0 hz0 hz1 hz2 hz1' kk p0 p1 p2 p3 q3 k0 k1
  have hd : decide ((1024 : Int) < (N : Int)) = false := decide_eq_false (by omega)
  clear g3
  simp only [Act.put, List.setIfInBounds_toArray, List.set_cons_zero, List.set_cons_succ]
  have KP3 := Lib.hid kp3
  clear kp3
  go_wp2_with fail
  go_ret
  have k4 := KP3.out.set 3 (.slice (some ⟨g, 0, none⟩) N cap)
  simp at k4
  have hgp : g ≠ p := by
    rcases HA3.out with h | h
    · have := HS.out.evGe h; omega
    · have := kp.lt; omega
  have hbp := HS.out.1
  refine ⟨.slice (some ⟨g, 0, none⟩) N cap, by rw [Int.natCast_add]; rfl, ⟨⟨hbp.1, fun e => hgp (by injection e)⟩, ?_, ?_, ?_⟩, ?_, ?_⟩
  · rw [Int.natCast_add]; exact k4
  · have h3 := (hm2.alloc (.cells #[.int .i64 what, .int .i64 kind, .string name, .int .u64 ((now : Int) + 1)] 95)).drew
    exact (h3.grown HG3.out (fun e => by have := HS.out.evGe e.symm; omega)).setCell (by simp; omega) _
  · have h4 := own_block (w' := w3.setCell ⟨p, 3, none⟩ (.slice (some ⟨g, 0, none⟩) N cap)) HO3.out (fun g' hg' => Below.heap_setCell _ _ _ _ (by
      have : g = g' := by simpa [Value.ownBlock] using hg'
      simp; omega))
    have e1 : (evs ++ [(⟨what, kind, name, now + 1⟩ : Ev)]).length = evs.length + 1 := by simp
    have e2 : [(⟨what, kind, name, now + 1⟩ : Ev)].flatMap Ev.cells = [.int .i64 what, .int .i64 kind, .string name, .int .u64 ((now : Int) + 1)] := by simp [Ev.cells]
    rw [e1, List.flatMap_append, e2]
    rw [HN.out] at h4 ⊢
    exact h4
  · have h5 : T3 p b ev w2 w3 := (T3.of_below (((Below.refl _ _).alloc (Nat.le_refl _) _).drew)).trans (EvTo.refl _ _) (T3.grownE HG3.out)
    exact (hT2.trans (EvTo.refl _ _) h5).setP 3 _
  · rcases HA3.out with h | h
    · exact .inl h.symm
    · exact .inr ⟨g, by have := hT2.size; omega, rfl⟩
end Go.Proofs.YtcbnmoghjhljbaaGreat
end
section
namespace Go.Proofs.YtcbnmoghjhljbaaGreat
open Go.RowKit Go.Proofs.Mem
open Go.Maps (Keyed)
set_option linter.unusedVariables false
set_option linter.unusedSimpArgs false
theorem laidOutS : laidOutB Tryz.prog = true := by kernel_rfl
theorem stK : Keyed Tryz.prog 92 := Keyed.of_law (deep_law_laid laidOutS (m := 100) (by omega) (of_decide_eq_true (by kernel_rfl)) (by kernel_rfl) (by kernel_rfl))
def kOf (kind : Int) (name : ByteArray) : Lit := .string (keyBytes [.int .i64 kind, .string name.data.toList])
set_option maxRecDepth 100000 in
theorem keyOf_st (kind : Int) (name : ByteArray) (hk : (Lit.int .i64 kind).wf = true) (hn : name.size ≤ maxLen) : keyOf Tryz.prog 92 (.agg #[.int .i64 kind, .string name]) = some (kOf kind name) := by
  have e2 : Tryz.prog.keyType 92 = true := by kernel_rfl
  have e4 : Tryz.prog.cellsOf 92 = 2 := by kernel_rfl
  have e5 : Tryz.prog.cellsOf 3 = 1 := by kernel_rfl
  have e6 : Tryz.prog.cellsOf 9 = 1 := by kernel_rfl
  have e7 : ∃ m, Tryz.prog.types.size = m + 1 := ⟨Tryz.prog.types.size - 1, by kernel_rfl⟩
  obtain ⟨m, hm⟩ := e7
  have h1 : ∀ m, Tryz.prog.keyLits (m + 2) 92 [.int .i64 kind, .string name] = some [.int .i64 kind, .string name.data.toList] := by
    intro m
    simp only [Program.keyLits, Tryz.underlying92]
    simp [Program.keyLits, e4, e5, e6, Tryz.underlying3, Tryz.underlying9, hk, hn]
  unfold keyOf
  rw [Tryz.underlying92]
  have h2 : (Value.agg #[.int .i64 kind, .string name]).formed Tryz.prog 92 = true := by
    simp [Value.formed, Tryz.underlying92, e4]
  simp only [e2, h2, Bool.and_self, if_true]
  rw [hm, show (Value.agg #[.int .i64 kind, .string name]).cells.toList = [.int .i64 kind, .string name] from rfl, show m + 1 + 1 = m + 2 from rfl, h1 m]
  rfl
theorem kOf_inj {k k' : Int} {s s' : ByteArray} (hk : (Lit.int .i64 k).wf = true) (hk' : (Lit.int .i64 k').wf = true) (hs : s.size ≤ maxLen) (hs' : s'.size ≤ maxLen) (h : kOf k s = kOf k' s') : k = k' ∧ s = s' := by
  have h1 := keyOf_st k s hk hs
  have h2 := keyOf_st k' s' hk' hs'
  rw [h] at h1
  have h3 := stK.inj h1 h2
  injection h3 with h3
  have h4 := Array.toList_inj.2 h3
  simp at h4
  exact h4
theorem keyLit_kOf (k : Int) (s : ByteArray) : WideAt.IsKeyLit (kOf k s) := by simp [kOf, WideAt.IsKeyLit]
end Go.Proofs.YtcbnmoghjhljbaaGreat
end
section
namespace Go.Proofs.Mem
open Go.RowKit
set_option linter.unusedVariables false
section
variable {w : World} {base g n c : Nat} {e : TypeId} {size : Nat} {xs : List Value}
theorem own_parts (h : w.ownsRow base e size (.slice (some ⟨g, 0, none⟩) n c) n xs) : ∃ cur, Bk w g e cur ∧ base ≤ g ∧ n ≤ c ∧ c ≤ maxLen ∧ cur.size = c * size ∧ cur.toList.take (n * size) = xs := by
  rcases h.2 with ⟨h1, _⟩ | ⟨g', c', cur, hv, h1, h2, h3, h4, h5, h6⟩
  · cases h1
  · injection hv with e1 e2 e3
    injection e1 with e1
    injection e1 with e1
    subst e1; subst e3
    exact ⟨cur, h2, h1, h3, h4, h5, h6⟩
theorem own_none (h : w.ownsRow base e size (.slice (some ⟨g, 0, none⟩) n c) n xs) : w.ownsRow base e size (.slice (some ⟨g, 0, none⟩) 0 c) 0 [] := by
  obtain ⟨cur, h1, h2, h3, h4, h5, h6⟩ := own_parts h
  exact ⟨by simp, .inr ⟨g, c, cur, rfl, h2, h1, Nat.zero_le _, h4, h5, by simp⟩⟩
theorem own_behind (h : w.ownsRow base e size (.slice (some ⟨g, 0, none⟩) n c) n xs) (vs : List Value) : (w.setCells g (n * size) vs).ownsRow base e size (.slice (some ⟨g, 0, none⟩) n c) n xs := by
  obtain ⟨cur, h1, h2, h3, h4, h5, h6⟩ := own_parts h
  have hk := h1.setL vs (n * size) _ rfl
  have hl : xs.length = n * size := h.1
  have hs : cur.toList = xs ++ cur.toList.drop (n * size) := by rw [← h6, List.take_append_drop]
  refine ⟨hl, .inr ⟨g, c, _, rfl, h2, hk, h3, h4, ?_, ?_⟩⟩
  · rw [List.size_toArray, setL_len, Array.length_toList, h5]
  · have e1 : Mem.setL cur.toList (n * size) vs = xs ++ Mem.setL (cur.toList.drop (n * size)) 0 vs := by
      have := setL_app vs xs (cur.toList.drop (n * size)) 0
      rw [hl, Nat.add_zero, ← hs] at this
      exact this
    rw [e1, ← hl]
    simp
theorem grown_setCell {w w' : World} {g : Nat} (h : w.grownBy w' (some g)) (o : Nat) (v : Value) : w.grownBy (w'.setCell ⟨g, o, none⟩ v) (some g) :=
  ⟨h.os, h.tape, h.output, by have := h.size; simp [World.setCell]; omega, fun k hk hne => (Below.heap_setCell w' ⟨g, o, none⟩ v k (by simpa using hne)).trans (h.block k hk hne)⟩
theorem grown_setCells {w w' : World} {g : Nat} (h : w.grownBy w' (some g)) : ∀ (vs : List Value) (o : Nat), w.grownBy (w'.setCells g o vs) (some g) := by
  intro vs o
  induction vs generalizing w' o with
  | nil => exact h
  | cons v r ih =>
    rw [World.setCells]
    exact ih (grown_setCell h o v) (o + 1)
theorem wp_append_fits {P : Program} (w : World) {o : Oper} {a : Act} {K : Act → World → Prop} {Q : Exit → Act → World → Prop}
    (s x : Operand) (t : TypeId) (hop : o.op = Op.call { callee := Callee.builtin Builtin.append, args := #[s, x], argTypes := #[t, t] })
    (base : Nat) (e : TypeId) (i : TypeInfo) (size : Nat) (h1 : P.underlying t = some (.slice e)) (h2 : P.info? e = some i) (h4 : i.size = size)
    (g k cap : Nat) (xs : List Value) (hs : a.eval s = .slice (some ⟨g, 0, none⟩) k cap) (hown : w.ownsRow base e size (.slice (some ⟨g, 0, none⟩) k cap) k xs) (ad : Addr) (m c : Nat) (news : List Value) (hx : a.eval x = .slice (some ad) m c) (hn : news.length = m * size)
    (hc : ∀ j u, news[j]? = some u → w.cell? (ad.add j) = some u) (h1c : ∀ u ∈ news, u.oneCell' = true) (b1 : k + m ≤ cap)
    (hK : ∀ w', w'.ownsRow base e size (.slice (some ⟨g, 0, none⟩) (k + m) cap) (k + m) (xs ++ news) → w.grownBy w' (some g) → K (a.put o.dst (.slice (some ⟨g, 0, none⟩) (k + m) cap)) w') :
    o.wp P a w K Q := by
  obtain ⟨w', hrun, r1, r2⟩ := run_append_fits (P := P) w base t o.type e i size h1 h2 h4 g k cap xs hown ad m c news hn hc h1c b1
  unfold Oper.wp
  simp [execOp, hop, resolve, invoke, builtin, hs, hx, hrun, Result.andThen]
  exact hK w' r1 r2
end
end Go.Proofs.Mem
namespace Go.Proofs.YtcbnmoghjhljbaaGreat
open Go.RowKit Go.Proofs.Mem
set_option linter.unusedVariables false
set_option linter.unusedSimpArgs false
def EvZ : Value := .agg #[.int .i64 0, .int .i64 0, .string ⟨#[]⟩, .int .u64 0]
theorem zero_ev (w : World) : (zeroValue 95).run Tryz.prog w = .ok EvZ w := by kernel_rfl
set_option maxHeartbeats 2000000 in
set_option maxRecDepth 100000 in
theorem del_first (w : World) (base g n c : Nat) (x : Ev) (xs : List Ev) (hxl : xs.length = n) (h : w.ownsRow base 95 4 (.slice (some ⟨g, 0, none⟩) (n + 1) c) (n + 1) ((x :: xs).flatMap Ev.cells)) (h0 : 0 < n) (hn : n ≤ 1000000) :
    Calls Tryz.prog 93 #[.slice (some ⟨g, 0, none⟩) ((n + 1 : Nat)) c, .int .i64 0, .int .i64 1] w fun e w' => e = .returned (.slice (some ⟨g, 0, none⟩) n c) ∧ w'.ownsRow base 95 4 (.slice (some ⟨g, 0, none⟩) n c) n (xs.flatMap Ev.cells) ∧ w.grownBy w' (some g) := by
  obtain ⟨ti, hi0, hz0, hz1, hz2⟩ := info_parts info_ev
  obtain ⟨cur, k1, k2, k3, k4, k5, k6⟩ := own_parts h
  have HO := Lib.hid (own_none h)
  have HC := Lib.hid (show ∀ j u, (xs.flatMap Ev.cells)[j]? = some u → w.drew.cell? (⟨g, 4 + j, none⟩ : Addr) = some u from by
    intro j u hu
    have h7 : (cur.toList.take ((n + 1) * 4))[4 + j]? = some u := by
      rw [k6, List.flatMap_cons, List.getElem?_append_right (by simp [Ev.cells])]
      simpa [Ev.cells] using hu
    rw [List.getElem?_take] at h7
    split at h7
    · exact (k1.cell _).trans (by rw [← Array.getElem?_toList]; exact h7)
    · cases h7)
  have c1 : 1 ≤ c := by omega
  have c2 : ¬ c = 1 := by omega
  have c3 : n + 1 ≤ c := k3
  clear h k1 k2 k4 k5 k6
  have c4 : (1 : Int) ≤ (n : Int) + 1 := by omega
  have c5 : (n : Int) ≤ (n : Int) + 1 := by omega
  have c6 : n ≤ c := by omega
  have c7 : n + 1 - n = 1 := by omega
  have c8 : ¬ c = n := by omega
  have HL : (xs.flatMap Ev.cells).length = n * 4 := by rw [flat_len' (s := 4) Ev.cells (fun _ => rfl), hxl]
  have H1 : ∀ u ∈ xs.flatMap Ev.cells, u.oneCell' = true := fun u hu => by
    obtain ⟨y, _, hy⟩ := List.mem_flatMap.1 hu
    simp only [Ev.cells, List.mem_cons, List.not_mem_nil, or_false] at hy
    rcases hy with rfl | rfl | rfl | rfl <;> rfl
  go_enter Tryz.func93, Tryz.ntmps93
  go_wp2_with fail
  refine wp_region_reads 6 1 (fun _ => True) (by kernel_rfl) (by kernel_rfl) (fun c a d v w h => by cases d <;> exact h) trivial ?_
  simp only [List.take_succ_cons, List.take_zero, List.drop_succ_cons, List.drop_zero]
  iterate 6
    refine reads_step (v := ?_) (by rfl) (fun w' hS => ?_) ?_
    rotate_left
    · go_simp
      with_reducible rfl
    simp only [Act.put, List.setIfInBounds_toArray, List.set_cons_zero, List.set_cons_succ]
  refine reads_nil ?_
  refine early_step rfl (by rfl) ?_
  refine wp_append_fits _ (.tmp 22) (.tmp 25) 87 rfl base 95 ti 4 Tryz.underlying87 hi0 hz1 g 0 c [] rfl HO.out.drew ⟨g, 4, none⟩ n (c - 1) (xs.flatMap Ev.cells) rfl HL (fun j u hu => by rw [Addr.add_lit]; exact HC.out j u hu) H1 (by omega) ?_
  intro w1 own1 gr1
  refine ⟨trivial, ?_⟩
  simp only [wpEarly, Nat.zero_add, List.nil_append] at own1 ⊢
  simp only [Act.put, List.setIfInBounds_toArray, List.set_cons_zero, List.set_cons_succ]
  have HN := Lib.hid own1
  have gr : w.grownBy w1 (some g) := ⟨gr1.os, gr1.tape, gr1.output, gr1.size, gr1.block⟩
  have HG := Lib.hid gr
  obtain ⟨cur1, k1, k2, k3, k4, k5, k6⟩ := own_parts own1
  have HK := Lib.hid k1
  have hc5 : (n + 1) * 4 ≤ cur1.size := by rw [k5]; exact Nat.mul_le_mul_right _ c3
  have hcl : ∀ ty, (Builtin.clear_ #[87] ty #[.slice (some ⟨g, n * 4, none⟩) 1 (c - n)]).run Tryz.prog w1 = .ok (.tuple #[]) (w1.setCells g (n * 4) EvZ.cells.toList) := by
    intro ty
    have hr := run_clear_cells (P := Tryz.prog) w1 87 95 ty EvZ Tryz.underlying87 zero_ev g (n * 4) 1 (c - n) EvZ.cells.toList (by kernel_rfl) (by decide) (fun j hj => by
      have hj4 : j < 4 := hj
      rw [k1.cell, Array.getElem?_eq_getElem (by omega)]
      rfl) (fun j _ => k1.frozen _)
    rwa [if_neg (by omega)] at hr
  have G2 := grown_setCells gr EvZ.cells.toList (n * 4)
  have O2 := own_behind own1 EvZ.cells.toList
  generalize w1.setCells g (n * 4) EvZ.cells.toList = w2 at hcl G2 O2
  clear own1 gr1 gr HN HG k1 k2 k3 k4 k5 k6 HC HO H1 HL
  go_wp2_with fail
  go_ret
  exact ⟨rfl, O2, G2⟩
end Go.Proofs.YtcbnmoghjhljbaaGreat
end
section
namespace Go.Proofs.YtcbnmoghjhljbaaGreat
open Go.RowKit Go.Proofs.Mem
set_option linter.unusedVariables false
set_option linter.unusedSimpArgs false
set_option maxHeartbeats 2000000 in
set_option maxRecDepth 100000 in
theorem note_full (w : World) (p b n : Nat) (D : DataW Value) (most : Int) (now : Nat) (ev : Value) (evs : List Ev) (h : StIs w p b n D most now ev evs) (hn : now < 1000000000) (hl : evs.length = 1024) (what kind : Int) (name : ByteArray) :
    Calls Tryz.prog 67 #[.pointer (some ⟨p, 0, none⟩), .int .i64 what, .agg #[.int .i64 kind, .string name]] w (NoteSt p b n D most now ev evs ⟨what, kind, name, now + 1⟩ w) := by
  obtain ⟨ti, hi0, hz0, hz1, hz2⟩ := info_parts info_ev
  have hz1' := hz1
  have g1 : (now : Int) < 1000000000 := by omega
  have g2 : evs.length + 1 = 1025 := by omega
  have hne1 : nextEvs evs ⟨what, kind, name, now + 1⟩ = evs.drop 1 ++ [⟨what, kind, name, now + 1⟩] := if_neg (by omega)
  unfold NoteSt
  rw [hne1]
  clear hne1
  have HS := Lib.hid h
  obtain ⟨d0, d1, d2, d3⟩ := h.cells
  have f2 := h.2.1.frozen 2
  have hpl := h.2.1.lt
  clear h hn hl
  go_enter Tryz.func67, Tryz.ntmps67
  have hca : ∀ o, (w.alloc o).cell? ⟨p, 2, none⟩ = some (.int .u64 now) := fun o => (HS.out.2.1.alloc o).cell 2
  have hfa : ∀ o, (w.alloc o).frozen? ⟨p, 2, none⟩ = false := fun o => (HS.out.2.1.alloc o).frozen 2
  go_wp2_with fail
  have kk := Bk.new (w.setCell ⟨p, 2, none⟩ (.int .u64 ((now : Int) + 1))) 92 #[.int .i64 kind, .string name]
  have kp := (HS.out.2.1.set 2 (.int .u64 ((now : Int) + 1))).alloc (.cells #[.int .i64 kind, .string name] 92)
  have hT2 : T3 p b ev w ((w.setCell ⟨p, 2, none⟩ (.int .u64 ((now : Int) + 1))).alloc (.cells #[.int .i64 kind, .string name] 92)) := ((T3.of_below (Below.refl _ _)).setP 2 _).trans (EvTo.refl _ _) (T3.of_below ((Below.refl _ _).alloc (Nat.le_refl _) _))
  have hown : ((w.setCell ⟨p, 2, none⟩ (.int .u64 ((now : Int) + 1))).alloc (.cells #[.int .i64 kind, .string name] 92)).ownsRow (b + 1) 95 4 ev evs.length (evs.flatMap Ev.cells) := by
    refine own_block HS.out.2.2.2 fun g hg => ?_
    have hge := HS.out.evGe hg
    exact (Below.heap_alloc _ _ g (by rw [World.size_setCell]; omega)).trans (Below.heap_setCell _ _ _ _ (by simp; omega))
  have hm2 : Mp Tryz.prog ((w.setCell ⟨p, 2, none⟩ (.int .u64 ((now : Int) + 1))).alloc (.cells #[.int .i64 kind, .string name] 92)) 92 b n D := (HS.out.2.2.1.setCell (by have := HS.out.1; simp; omega) _).alloc _
  rw [World.size_setCell] at kk
  simp at kp
  generalize (w.setCell ⟨p, 2, none⟩ (.int .u64 ((now : Int) + 1))).alloc (.cells #[.int .i64 kind, .string name] 92) = w2 at kk kp hT2 hown hm2 ⊢
  have k0 := kk.cell 0
  have k1 := kk.cell 1
  have p0 := kp.cell 0
  have p1 := kp.cell 1
  have p2 := kp.cell 2
  have p3 := kp.cell 3
  have q3 := kp.frozen 3
  have HO := Lib.hid hown
  clear hown d0 d1 d2 d3 f2 hca hfa
  have hevl : evs.length + 1 ≤ maxLen := by unfold maxLen; omega
  have hevb : (evs.length + 1) * 40 ≤ 140737488355328 := by omega
  have s2 : ∀ o, (w2.alloc o).cell? ⟨p, 2, none⟩ = some (.int .u64 ((now : Int) + 1)) := fun o => (kp.alloc o).cell 2
  have s3 : ∀ o, (w2.alloc o).cell? ⟨p, 3, none⟩ = some ev := fun o => (kp.alloc o).cell 3
  have t0 : ∀ o, (w2.alloc o).cell? ⟨w.heap.size, 0, none⟩ = some (.int .i64 kind) := fun o => (kk.alloc o).cell 0
  have t1 : ∀ o, (w2.alloc o).cell? ⟨w.heap.size, 1, none⟩ = some (.string name) := fun o => (kk.alloc o).cell 1
  have hne : some p ≠ ev.ownBlock := fun e => by have := HS.out.evGe e.symm; omega
  have hbs : b + 1 ≤ w2.heap.size + 1 := by have := kp.lt; have := HS.out.1.1; omega
  have hkne : some w.heap.size ≠ ev.ownBlock := fun e => by have := HS.out.evGe e.symm; omega
  refine wp_region_reads 15 2 (fun w' => w'.cell? ⟨p, 2, none⟩ = some (.int .u64 ((now : Int) + 1)) ∧ w'.cell? ⟨w.heap.size, 0, none⟩ = some (.int .i64 kind) ∧ w'.cell? ⟨w.heap.size, 1, none⟩ = some (.string name) ∧ w'.cell? ⟨p, 3, none⟩ = some ev) (by kernel_rfl) (by kernel_rfl) (fun c a d v w h => by cases d <;> exact h) ⟨p2, k0, k1, p3⟩ ?_
  simp only [List.take_succ_cons, List.take_zero, List.drop_succ_cons, List.drop_zero]
  iterate 15
    refine reads_step (v := ?_) (by rfl) (fun w' hS => ?_) ?_
    rotate_left
    · have u2 := hS.1
      have v0 := hS.2.1
      have v1 := hS.2.2.1
      have u3 := hS.2.2.2
      clear hS
      go_simp
      with_reducible rfl
    simp only [Act.put, List.setIfInBounds_toArray, List.set_cons_zero, List.set_cons_succ]
  refine reads_nil ?_
  refine early_step rfl (by rfl) ?_
  go_simp
  refine early_step rfl (by rfl) ?_
  refine wp_append_lies _ (.tmp 18) (.tmp 29) 87 rfl (b + 1) 95 ti _ 4 40 Tryz.underlying87 hi0 hz0 hz1 hz2 rfl (by omega) ev evs.length (evs.flatMap Ev.cells) rfl ((HO.out.alloc _).drew) ⟨w2.heap.size, 0, none⟩ 1 1 [.int .i64 what, .int .i64 kind, .string name, .int .u64 ((now : Int) + 1)] rfl rfl (World.news_of_block (cs := #[.int .i64 what, .int .i64 kind, .string name, .int .u64 ((now : Int) + 1)]) (t := 95) (fr := (0, 0)) (heap_alloc_new w2 _)) (by simp [Value.oneCell']) (by omega) hevl hevb (by simp; omega) (w2.heap.size + 1) (by simp) ?_
  intro g cap w3 hown3 hg3 hat hlt
  have kp3 := ((kp.alloc (.cells #[.int .i64 what, .int .i64 kind, .string name, .int .u64 ((now : Int) + 1)] 95)).drew).grown hg3 hne
  have kk3 := ((kk.alloc (.cells #[.int .i64 what, .int .i64 kind, .string name, .int .u64 ((now : Int) + 1)] 95)).drew).grown hg3 hkne
  have r2 := kp3.cell 2
  have r3 := kp3.cell 3
  have r4 := kp3.frozen 3
  refine ⟨⟨r2, kk3.cell 0, kk3.cell 1, r3⟩, ?_⟩
  simp only [wpEarly]
  have HG3 := Lib.hid hg3
  have HA3 := Lib.hid hat
  have HO3 := Lib.hid hown3
  clear hg3 hat hown3 s2 s3 t0 t1 kk3 hevl hevb
  have kp4 := kp3.set 3 (.slice (some ⟨g, 0, none⟩) 1025 cap)
  simp at kp4
  have hgp : g ≠ p := by
    rcases HA3.out with h | h
    · have := HS.out.evGe h; omega
    · have := kp.lt; omega
  have hge : b + 1 ≤ g := by
    have h0 := HS.out.1.1
    rcases HA3.out with h | h
    · have := HS.out.evGe h; omega
    · have := kp.lt; omega
  have hT3 : T3 p b ev w (w3.setCell ⟨p, 3, none⟩ (.slice (some ⟨g, 0, none⟩) 1025 cap)) := by
    have h5 : T3 p b ev w2 w3 := (T3.of_below (((Below.refl _ _).alloc (Nat.le_refl _) _).drew)).trans (EvTo.refl _ _) (T3.grownE HG3.out)
    exact (hT2.trans (EvTo.refl _ _) h5).setP 3 _
  have hE : EvTo w ev (.slice (some ⟨g, 0, none⟩) (1024 : Nat) cap) := by
    rcases HA3.out with h | h
    · exact .inl h.symm
    · exact .inr ⟨g, by have := hT2.size; omega, rfl⟩
  have hM4 : Mp Tryz.prog (w3.setCell ⟨p, 3, none⟩ (.slice (some ⟨g, 0, none⟩) 1025 cap)) 92 b n D := by
    have h3 := (hm2.alloc (.cells #[.int .i64 what, .int .i64 kind, .string name, .int .u64 ((now : Int) + 1)] 95)).drew
    exact (h3.grown HG3.out (fun e => by have := HS.out.evGe e.symm; have := HS.out.1; omega)).setCell (by have := HS.out.1; simp; omega) _
  obtain ⟨y, ys, hys⟩ : ∃ y ys, evs ++ [(⟨what, kind, name, now + 1⟩ : Ev)] = y :: ys := by
    cases evs with
    | nil => exact ⟨_, _, rfl⟩
    | cons y ys => exact ⟨_, _, rfl⟩
  have hyl : ys.length = 1024 := by
    have := congrArg List.length hys
    simp only [List.length_append, List.length_cons, List.length_nil] at this
    omega
  have hyd : ys = evs.drop 1 ++ [⟨what, kind, name, now + 1⟩] := by
    cases evs with
    | nil => simp at g2
    | cons z zs => injection hys with h1 h2; exact h2.symm
  have hO4 : (w3.setCell ⟨p, 3, none⟩ (.slice (some ⟨g, 0, none⟩) 1025 cap)).ownsRow (b + 1) 95 4 (.slice (some ⟨g, 0, none⟩) 1025 cap) 1025 ((y :: ys).flatMap Ev.cells) := by
    have h4 := own_block (w' := w3.setCell ⟨p, 3, none⟩ (.slice (some ⟨g, 0, none⟩) 1025 cap)) HO3.out (fun g' hg' => Below.heap_setCell _ _ _ _ (by
      have : g = g' := by simpa [Value.ownBlock] using hg'
      simp; omega))
    rw [← hys, List.flatMap_append]
    have e2 : [(⟨what, kind, name, now + 1⟩ : Ev)].flatMap Ev.cells = [.int .i64 what, .int .i64 kind, .string name, .int .u64 ((now : Int) + 1)] := by simp [Ev.cells]
    rw [e2]
    rw [g2] at h4
    exact h4
  rw [g2]
  simp only [Act.put, List.setIfInBounds_toArray, List.set_cons_zero, List.set_cons_succ]
  clear hne hkne hbs hi0 hz0 hz1 hz2 hz1' kk p0 p1 p2 p3 q3 k0 k1 HO3 HA3 HG3 hys
  have hbp := HS.out.1
  clear HS HO hm2 hT2 kp
  have KP4 := Lib.hid kp4
  have HT3 := Lib.hid hT3
  have HM4 := Lib.hid hM4
  have HO4 := Lib.hid hO4
  have HE := Lib.hid hE
  clear kp4 hT3 hM4 hO4 hE
  go_wp2_with fail
  generalize w3.setCell ⟨p, 3, none⟩ (.slice (some ⟨g, 0, none⟩) 1025 cap) = w4 at KP4 HT3 HM4 HO4 ⊢
  have s3 := KP4.out.cell 3
  clear r2 r3 r4 kp3
  refine wp_region_reads 11 1 (fun w' => w'.cell? ⟨p, 3, none⟩ = some (.slice (some ⟨g, 0, none⟩) 1025 cap)) (by kernel_rfl) (by kernel_rfl) (fun c a d v w h => by cases d <;> exact h) s3 ?_
  simp only [List.take_succ_cons, List.take_zero, List.drop_succ_cons, List.drop_zero]
  iterate 11
    refine reads_step (v := ?_) (by rfl) (fun w' hS => ?_) ?_
    rotate_left
    · go_simp
      with_reducible rfl
    simp only [Act.put, List.setIfInBounds_toArray, List.set_cons_zero, List.set_cons_succ]
  refine reads_nil ?_
  have CD := del_first w4.drew (b + 1) g 1024 cap y ys hyl HO4.out.drew (by omega) (by omega)
  refine early_callT (.slice (some ⟨g, 0, none⟩) 1024 cap) 50 _ #[.slice (some ⟨g, 0, none⟩) 1025 cap, .int .i64 0, .int .i64 1] rfl rfl (by rfl) (by go_simp; kernel_rfl) CD ?_
  rintro w5 ⟨O5, G5⟩
  have kp5 := (KP4.out.drew).grown G5 (by simpa using Ne.symm hgp)
  have s5 := kp5.cell 3
  have t5 := kp5.frozen 3
  have u5 := kp5.cell 2
  refine ⟨s5, ?_⟩
  simp only [wpEarly]
  simp only [Act.put, List.setIfInBounds_toArray, List.set_cons_zero, List.set_cons_succ]
  have HO5 := Lib.hid O5
  have HG5 := Lib.hid G5
  have HY := Lib.hid (And.intro hyl hyd)
  have KP5 := Lib.hid kp5
  have HP := Lib.hid hgp
  clear O5 G5 CD kp5 hyl hyd HO4 s3 g2 hgp
  go_wp2_with fail
  go_ret
  have k6 := KP5.out.set 3 (.slice (some ⟨g, 0, none⟩) 1024 cap)
  simp at k6
  refine ⟨.slice (some ⟨g, 0, none⟩) 1024 cap, by rw [Int.natCast_add]; rfl, ⟨⟨hbp.1, fun e => HP.out (by injection e)⟩, ?_, ?_, ?_⟩, ?_, HE.out⟩
  · rw [Int.natCast_add]; exact k6
  · exact ((HM4.out.drew).grown HG5.out (fun e => by injection e with e; omega)).setCell (by simp; omega) _
  · have h4 := own_block (w' := w5.setCell ⟨p, 3, none⟩ (.slice (some ⟨g, 0, none⟩) 1024 cap)) HO5.out (fun g' hg' => Below.heap_setCell _ _ _ _ (by
      have : g = g' := by simpa [Value.ownBlock] using hg'
      have := HP.out
      simp; omega))
    rw [← HY.out.2, HY.out.1]
    exact h4
  · exact (HT3.out.trans HE.out (T3.grownE (ev := .slice (some ⟨g, 0, none⟩) 1024 cap) ⟨HG5.out.os, HG5.out.tape, HG5.out.output, HG5.out.size, HG5.out.block⟩)).setP 3 _
theorem note_any (w : World) (p b n : Nat) (D : DataW Value) (most : Int) (now : Nat) (ev : Value) (evs : List Ev) (h : StIs w p b n D most now ev evs) (hn : now < 1000000000) (hl : evs.length ≤ 1024) (what kind : Int) (name : ByteArray) :
    Calls Tryz.prog 67 #[.pointer (some ⟨p, 0, none⟩), .int .i64 what, .agg #[.int .i64 kind, .string name]] w (NoteSt p b n D most now ev evs ⟨what, kind, name, now + 1⟩ w) := by
  rcases Nat.lt_or_ge evs.length 1024 with h1 | h1
  · exact note_lt w p b n D most now ev evs h hn h1 what kind name
  · exact note_full w p b n D most now ev evs h hn (by omega) what kind name
end Go.Proofs.YtcbnmoghjhljbaaGreat
end
