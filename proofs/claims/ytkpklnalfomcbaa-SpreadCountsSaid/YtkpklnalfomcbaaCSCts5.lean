/-
  A map whose elements read as themselves, all of them ints, read with plain elements: as the kit's contracts on maps.Values ask; Spread: spread.ends: the fewest and the most of a map's values (maps.Values, slices.Collect, Min, Max).; A copy of the j-th object of a row in a block of the call's own, as a range loop makes it: all facts of it in one word.; Spread: spread.Skew is the most less the fewest that a place has.; Spread: trimtablaw33.count, the law's own count; Spread: trimtablaw33.ends: the fewest and the most, by the law; trimtablaw17.Few: some bool; where true: at most 60 objects that may be, of unlike names; Spread's sort: cmp.Compare, cmp.Or, the closure of Pick; slices.insertionSortCmpFunc at choices; The step of slices.symMerge, in plain words: behind the rotation all that lies to the left of the middle is at most what lies to its right; Spread's sort: the order of choices; insertion sort, swapRange at choices.; Spread's sort, in plain words: ranges that are exchanged, rotated, shifted; merged rows; Spread's sort: rotate at choices.; Spread's sort, in plain words: symMerge's parts and how they join
-/
import Derived.Test.YtkpklnalfomcbaaCSCts4
import Derived.Shelf.SlIter.AllValues
import Derived.Test.YtkpklnalfomcbaaVals
import Derived.Test.YtkpklnalfomcbaaCSCts1
import Derived.Lib.QuietBelow
import Derived.BigQuiet
import Derived.Test.YtkpklnalfomcbaaProg
import Derived.Shelf.SlSortCmp.InsertionK
import Derived.Lib.Hide
import Derived.Test.YtkpklnalfomcbaaInsc
import Derived.Sort.LotA
import Derived.Sort.Lot0
import Derived.Sort.Walk0
import Derived.Shelf.SlSortFuncK.SWK
section
namespace Go.Proofs.Mem
open Go.RowKit Go.WideElems
open Go.Maps (Keyed)
set_option linter.unusedVariables false
set_option linter.unusedSimpArgs false
def convI : DataW Value → DataW Value
  | .held (.int q a) => .lit (.int q a)
  | d => d
def convP (p : Lit × DataW Value) : Lit × DataW Value := (p.1, convI p.2)
theorem insert_conv (x : Lit × DataW Value) : ∀ l : List (Lit × DataW Value), (DataW.insert x l).map convP = DataW.insert (convP x) (l.map convP)
  | [] => rfl
  | y :: r => by
    unfold DataW.insert
    show List.map convP (if x.1.before y.1 = true then x :: y :: r else y :: DataW.insert x r) = if x.1.before y.1 = true then convP x :: convP y :: r.map convP else convP y :: DataW.insert (convP x) (r.map convP)
    split
    · rfl
    · rw [List.map_cons, insert_conv x r]
theorem sorted_conv : ∀ l : List (Lit × DataW Value), (l.foldr DataW.insert []).map convP = (l.map convP).foldr DataW.insert []
  | [] => rfl
  | x :: l => by
    rw [List.foldr_cons, insert_conv, sorted_conv l]
    rfl
theorem find_apart : ∀ (es : List (Lit × DataW Value)), es.Pairwise (fun p q => p.1 ≠ q.1) → ∀ p ∈ es, ∀ x, p.1 = .string x → es.find? (fun q => q.1.sameKey (.string x)) = some p
  | [], _, p, hp, _, _ => by cases hp
  | a :: r, hpw, p, hp, x, hx => by
    rw [List.pairwise_cons] at hpw
    rcases List.mem_cons.1 hp with rfl | hp'
    · rw [List.find?_cons_of_pos (by rw [hx]; simp [Lit.sameKey])]
    · have hne : a.1 ≠ p.1 := hpw.1 p hp'
      rw [List.find?_cons_of_neg (by rw [← hx, Maps.sameKey_ne hne]; simp)]
      exact find_apart r hpw.2 p hp' x hx
theorem find_conv (kl : Lit) : ∀ es : List (Lit × DataW Value), (es.map convP).find? (fun q => q.1.sameKey kl) = (es.find? (fun q => q.1.sameKey kl)).map convP
  | [] => rfl
  | a :: r => by
    rw [List.map_cons]
    cases h : a.1.sameKey kl with
    | true =>
      rw [List.find?_cons_of_pos (p := fun q : Lit × DataW Value => q.1.sameKey kl) (a := convP a) (by exact h), List.find?_cons_of_pos (p := fun q : Lit × DataW Value => q.1.sameKey kl) (a := a) (by exact h)]
      rfl
    | false =>
      rw [List.find?_cons_of_neg (p := fun q : Lit × DataW Value => q.1.sameKey kl) (a := convP a) (by show ¬ a.1.sameKey kl = true; rw [h]; simp), List.find?_cons_of_neg (p := fun q : Lit × DataW Value => q.1.sameKey kl) (a := a) (by show ¬ a.1.sameKey kl = true; rw [h]; simp), find_conv kl r]
theorem atKey_find {H : Type} {es : List (Lit × DataW H)} {kl : Lit} {p : Lit × DataW H} (h : es.find? (fun q => q.1.sameKey kl) = some p) (z : DataW H) : (DataW.map es).atKey kl z = p.2 := by
  simp [DataW.atKey, h]
theorem Mp.ints {P : Program} {w : World} {k : TypeId} {b n : Nat} {D : DataW Value} (h : Mp P w k b n D) (K : Keyed P k) (hk : P.underlying k = some .string) {e : TypeId} (he : P.underlying e = some (.int .i64)) {z : Value}
    (hv : ∀ x, Maps.has D (.string x) = true → ∃ a, valAt D (.string x) z = .int .i64 a ∧ (Lit.int .i64 a).wf = true) :
    ∃ D' : DataW Value, w.ownsMap P k (plainElem P e) b n D' ∧ Maps.size D' = Maps.size D ∧ (∀ x, Maps.has D' (.string x) = Maps.has D (.string x)) ∧ (∀ x a, Maps.has D (.string x) = true → (∀ zd, D'.atKey (.string x) zd = .lit (.int .i64 a)) → valAt D (.string x) z = .int .i64 a) := by
  obtain ⟨es0, hD0, hpw, hkl⟩ := World.ownsMap.entries h K
  obtain ⟨es1, hD1, hko⟩ := World.ownsMap.keysOf h
  obtain rfl : es0 = es1 := by rw [hD0] at hD1; simpa using hD1
  have hstr : ∀ p ∈ es0, ∃ x, p.1 = .string x := fun p hp => by
    obtain ⟨v, hv⟩ := hko p hp
    obtain ⟨x, _, hx, _⟩ := Maps.keyOf_str hk hv
    exact ⟨x, hx⟩
  have hhas : ∀ p ∈ es0, ∀ x, p.1 = .string x → Maps.has D (.string x) = true := fun p hp x hx => by
    rw [hD0]
    exact List.any_eq_true.2 ⟨p, hp, by rw [hx]; simp [Lit.sameKey]⟩
  have hval : ∀ p ∈ es0, ∀ x, p.1 = .string x → ∀ v, p.2 = .held v → valAt D (.string x) z = v := fun p hp x hx v hv => by
    unfold valAt
    rw [hD0, atKey_find (find_apart es0 hpw p hp x hx), hv]
  obtain ⟨es, clock, hb, F, hs, hD⟩ := h
  have hE : es0 = (es.toList.map (rg P k asIs)).foldr DataW.insert [] := by rw [hD0] at hD; simpa using hD
  have hone : ∀ x ∈ es.toList, ∃ kl a, rd P k asIs x = some (kl, .held (.int .i64 a)) ∧ rd P k (plainElem (H := Value) P e) x = some (kl, .lit (.int .i64 a)) := fun x hx => by
    obtain ⟨y, hy⟩ := F.reads x hx
    have hm : y ∈ es0 := by
      rw [hE, mem_sorted]
      exact List.mem_map.2 ⟨x, hx, rg_of hy⟩
    obtain ⟨s, hys⟩ := hstr y hm
    obtain ⟨zz, hz1, hz2⟩ := rd_val hy
    unfold asIs at hz1
    injection hz1 with hz1
    have hyv : y.2 = .held x.val := by rw [hz2, ← hz1]
    obtain ⟨a, ha, hwf⟩ := hv s (hhas y hm s hys)
    have hxv : x.val = .int .i64 a := by rw [← hval y hm s hys _ hyv]; exact ha
    refine ⟨y.1, a, ?_, ?_⟩
    · rw [hy, ← hxv, ← hyv]
    · have hkey := rd_key hy
      unfold rd
      rw [hkey, hxv, plainElem_int he hwf]
      rfl
  have hrg : es.toList.map (rg P k (plainElem (H := Value) P e)) = (es.toList.map (rg P k asIs)).map convP := by
    rw [List.map_map]
    refine List.map_congr_left fun x hx => ?_
    obtain ⟨kl, a, h1, h2⟩ := hone x hx
    show rg P k (plainElem P e) x = convP (rg P k asIs x)
    rw [rg_of h1, rg_of h2]
    rfl
  have hD' : ((es.toList.map (rg P k (plainElem (H := Value) P e))).foldr DataW.insert []) = es0.map convP := by rw [hrg, ← sorted_conv, ← hE]
  refine ⟨.map (es0.map convP), ⟨es, clock, hb, ⟨F.size, F.stamped, fun x hx => ?_⟩, hs, by rw [hD']⟩, ?_, fun x => ?_, fun x a hx ha => ?_⟩
  · obtain ⟨kl, a, _, h2⟩ := hone x hx
    exact ⟨_, h2⟩
  · rw [hD0]
    show (es0.map convP).length = es0.length
    simp
  · rw [hD0]
    show (es0.map convP).any _ = es0.any _
    rw [List.any_map]
    rfl
  · have h1 := ha (.lit (.bool false))
    rw [hD0] at hx
    obtain ⟨p, hp, hps⟩ := List.any_eq_true.1 hx
    obtain ⟨s, hs'⟩ := hstr p hp
    obtain rfl : s = x := by rw [hs'] at hps; simpa [Lit.sameKey] using hps
    rw [atKey_find (p := convP p) (by rw [find_conv, find_apart es0 hpw p hp s hs']; rfl)] at h1
    have h2 : convI p.2 = .lit (.int .i64 a) := h1
    rw [hE, mem_sorted] at hp
    obtain ⟨y, hy, hyp⟩ := List.mem_map.1 hp
    obtain ⟨kl, a', h3, _⟩ := hone y hy
    rw [rg_of h3] at hyp
    subst hyp
    have h4 : a' = a := by
      have : (DataW.lit (.int .i64 a') : DataW Value) = .lit (.int .i64 a) := h2
      injection this with this
      injection this
    subst h4
    have hm : ((kl, .held (.int .i64 a')) : Lit × DataW Value) ∈ es0 := by
      rw [hE, mem_sorted]
      exact List.mem_map.2 ⟨y, hy, rg_of h3⟩
    exact hval _ hm s hs' _ rfl
end Go.Proofs.Mem
end
section
namespace Go.Proofs.Ytkpklnalfomcbaa
open Go.RowKit Go.Proofs.Mem
open Go.Maps (Keyed string_keyed)
set_option linter.unusedVariables false
set_option linter.unusedSimpArgs false
theorem minZ_eq (a : Nat) (l : List Nat) : minZ (a : Int) (l.map fun n : Nat => (n : Int)) = (((a :: l).min?).getD 0 : Nat) := by
  show (l.map fun n : Nat => (n : Int)).foldl min (a : Int) = ((l.foldl min a : Nat) : Int)
  induction l generalizing a with
  | nil => rfl
  | cons b l ih =>
    rw [List.map_cons, List.foldl_cons, List.foldl_cons, ← ih, show min (a : Int) (b : Int) = ((min a b : Nat) : Int) by omega]
theorem maxZ_eq (a : Nat) (l : List Nat) : maxZ (a : Int) (l.map fun n : Nat => (n : Int)) = (((a :: l).max?).getD 0 : Nat) := by
  show (l.map fun n : Nat => (n : Int)).foldl max (a : Int) = ((l.foldl max a : Nat) : Int)
  induction l generalizing a with
  | nil => rfl
  | cons b l ih =>
    rw [List.map_cons, List.foldl_cons, List.foldl_cons, ← ih, show max (a : Int) (b : Int) = ((max a b : Nat) : Int) by omega]
set_option maxRecDepth 100000 in
set_option maxHeartbeats 1000000 in
theorem collect_vals {f : ByteArray → Nat} {h : ByteArray → Bool} {w : World} {mo n : Nat} {D : DataW Value} (hM : Mp Try.prog w 9 mo n D) (hC : CntM f h D) (hf : ∀ p, f p ≤ 5000) (hn : n ≤ 5000) :
    Calls Try.prog 43 #[.func (.func 57) #[] #[.pointer (some ⟨w.heap.size, 0, none⟩)]] (w.alloc (.cells #[.map (some mo)] 77)) fun e w' =>
      ∃ (v : Value) (xs : List Nat), e = .returned v ∧ xs.length ≤ 5000 ∧ (∀ x, x ∈ xs ↔ ∃ p, h p = true ∧ f p = x) ∧ Sl w' 1 v xs.length ((xs.map fun n : Nat => (n : Int)).map ivZ) ∧ Below (w.alloc (.cells #[.map (some mo)] 77)).heap.size (w.alloc (.cells #[.map (some mo)] 77)) w' := by
  obtain ⟨D', hown, hsz, hhas, hat⟩ := Mp.ints (e := 3) (z := .int .i64 0) hM strKs Try.underlying9 Try.underlying3 (fun x hx => ⟨f ⟨x.toArray⟩, (hC x).2, by
    have := hf ⟨x.toArray⟩
    simp [Lit.wf, IntKind.min, IntKind.max, IntKind.signed, IntKind.bits]
    omega⟩)
  have hle : Maps.size D' ≤ 5000 := by rw [hsz]; exact Nat.le_trans hM.size_le hn
  have hbl := hM.lt
  have hown2 : (w.alloc (.cells #[.map (some mo)] 77)).ownsMap Try.prog 9 (plainElem Try.prog 3) mo n D' := by
    obtain ⟨es, clock, hb, Ft, hs, hD⟩ := hown
    exact ⟨es, clock, (Below.heap_alloc _ _ mo hbl).trans hb, Ft, hs, hD⟩
  have hst := AnyY.values_stops (ρ := Try.valuesL_ren) { Try.valuesL with } Fence.wide 3 trivial rfl (by omega) w.heap.size mo n D' (w.alloc (.cells #[.map (some mo)] 77)) (by simp) (by simp) hown2
  have hgive := hst.gives
  have hcol := AnyZI.collect_in (ρ := Try.collectL_ren) Try.collectL Fence.wide 5 trivial trivial rfl (by omega) 57 #[.pointer (some ⟨w.heap.size, 0, none⟩)] trivial (enters_of Try.func57 (by kernel_rfl) rfl) _ _ (by unfold maxLen; omega) (by omega) _ hgive
  refine (callsIn_wide.1 hcol).mono ?_
  rintro e w' ⟨v, ss, rfl, ⟨ps, ⟨hperm, hmem, hval⟩, rfl⟩, hrow, hnil, hb⟩
  have hkey : ∀ p ∈ ps, Maps.has D (.string p.1) = true ∧ p.2 = f ⟨p.1.toArray⟩ := fun p hp => by
    have h1 : Maps.has D' (.string p.1) = true := (hmem p.1).1 (List.mem_map.2 ⟨p, hp, rfl⟩)
    rw [hhas] at h1
    have h2 := hat p.1 p.2 h1 (hval p hp)
    rw [(hC p.1).2] at h2
    injection h2 with _ h2
    exact ⟨h1, h2.symm⟩
  have hps : ps.map (·.2) = (ps.map fun p => f ⟨p.1.toArray⟩).map fun n : Nat => (n : Int) := by
    rw [List.map_map]
    exact List.map_congr_left fun p hp => (hkey p hp).2
  have hlen : ps.length ≤ 5000 := by
    have h1 := hperm.length_eq
    rw [List.length_map] at h1
    have h2 : (strKeys D').length = Maps.size D' := by
      obtain ⟨es, hD, _⟩ := World.ownsMap.entries hown strKs
      subst hD
      show (es.map _).length = es.length
      simp
    omega
  refine ⟨v, ps.map fun p => f ⟨p.1.toArray⟩, rfl, by simpa using hlen, fun x => ?_, ?_, hb⟩
  · rw [List.mem_map]
    constructor
    · rintro ⟨p, hp, rfl⟩
      have h1 := (hkey p hp).1
      rw [(hC p.1).1] at h1
      exact ⟨_, h1, rfl⟩
    · rintro ⟨q, hq, rfl⟩
      have h1 : Maps.has D' (.string q.data.toList) = true := by rw [hhas, (hC _).1]; exact hq
      obtain ⟨p, hp, he⟩ := List.mem_map.1 ((hmem _).2 h1)
      exact ⟨p, hp, by rw [he]⟩
  · have h1 := Sl.of_own hrow
    rw [hps] at h1
    rw [List.length_map, List.length_map] at h1
    rw [List.length_map]
    exact h1
theorem ends_any {f : ByteArray → Nat} {h : ByteArray → Bool} {w : World} {mo n : Nat} {D : DataW Value} (hM : Mp Try.prog w 9 mo n D) (hC : CntM f h D) (hf : ∀ p, f p ≤ 5000) (hn : n ≤ 5000) :
    Calls Try.prog 22 #[.map (some mo)] w fun e w' => ∃ xs : List Nat, e = .returned (.tuple #[.int .i64 ((xs.min?.getD 0 : Nat) : Int), .int .i64 ((xs.max?.getD 0 : Nat) : Int)]) ∧ (∀ x, x ∈ xs ↔ ∃ p, h p = true ∧ f p = x) ∧ Below w.heap.size w w' := by
  have CK := Lib.hid (callsIn_wide.1 (AnyY.values_in (ρ := Try.valuesL_ren) { Try.valuesL with } Fence.wide 5 trivial rfl (some mo) w))
  have CS := Lib.hid (collect_vals hM hC hf hn)
  clear hM hC hf hn
  go_enter Try.func22, Try.ntmps22
  go_wp2_with fail
  refine CK.out.mono ?_
  rintro e w1 ⟨rfl, rfl⟩
  go_wp2_with fail
  refine CS.out.mono ?_
  rintro e w2 ⟨v, xs, rfl, hl, hx, hS, hb⟩
  have hB := below_tr (below_al w (.cells #[.map (some mo)] 77)) hb
  have HB := Lib.hid (And.intro hx hB)
  clear hb hB hx
  obtain ⟨A, c, rfl, hc, _⟩ := id hS
  cases xs with
  | nil =>
    clear hS
    go_wp2_with fail
    go_ret2
    exact ⟨[], rfl, HB.out.1, HB.out.2⟩
  | cons a l =>
    have C1 := Lib.hid (fun w => min_any a (l.map fun n : Nat => (n : Int)) (a :: l).length (.slice A (a :: l).length c) w (by simp) (by simpa using hl))
    have C2 := Lib.hid (fun w => max_any a (l.map fun n : Nat => (n : Int)) (a :: l).length (.slice A (a :: l).length c) w (by simp) (by simpa using hl))
    have HS := Lib.hid hS
    have hpos : 0 < (a :: l).length := by simp
    obtain ⟨m, hm⟩ : ∃ m, m = (a :: l).length := ⟨_, rfl⟩
    have HM := Lib.hid hm
    rw [← hm] at hpos hl hc C1 C2 HS ⊢
    clear hS hm
    go_wp2_with fail
    refine (C1.out _ HS.out).mono ?_
    rintro e w3 ⟨rfl, rfl⟩
    go_wp2_with fail
    refine (C2.out _ HS.out).mono ?_
    rintro e w3 ⟨rfl, rfl⟩
    go_wp2_with fail
    go_ret2
    exact ⟨a :: l, by rw [minZ_eq, maxZ_eq]; rfl, HB.out.1, HB.out.2⟩
end Go.Proofs.Ytkpklnalfomcbaa
end
section
namespace Go.Proofs.Ytkpklnalfomcbaa
open Go.RowKit Go.Proofs.Mem
set_option linter.unusedVariables false
set_option linter.unusedSimpArgs false
structure C47 (wr : World) (b o : Nat) (x : Ob) (L : Array Value) (W2 : World) : Prop where
  r : wr.rangeAt b o L.toList
  kz : Bk (wr.alloc (.cells Z47 57)) wr.heap.size 57 Z47
  w2 : (wr.alloc (.cells Z47 57)).setCells wr.heap.size 0 L.toList = W2
  is : Is47 L
  zz : Z47.size = L.size
  b : Below wr.heap.size wr W2
  l : L.toList.toArray = L
  ok : x.Ok W2
  k : Bk W2 wr.heap.size 57 L
  e : L = x.cells.toArray
theorem c47_of {w wr : World} {A : Option Addr} {c : Nat} {l : List Ob} (hA : Sl w 47 (.slice A l.length c) l.length (l.flatMap Ob.cells)) (hok : ∀ x ∈ l, x.Ok w) (hB : Below w.heap.size w wr) {j : Nat} (hlt : j < l.length) :
    ∃ b o x L W2, A = some ⟨b, o, none⟩ ∧ l[j]? = some x ∧ C47 wr b (o + j * 47) x L W2 := by
  obtain ⟨b1, o1, rfl, hb1, hadd1, hcell⟩ := Sl.row' (s := 47) (f := Ob.cells) (fun _ => rfl) (by omega) (hA.below hB) j hlt
  have hr : wr.rangeAt b1 (o1 + j * 47) (l[j]).cells := fun i u hi => hcell i u hi
  have hox := (hok _ (List.getElem_mem hlt)).below hB
  obtain ⟨x, hx⟩ : ∃ x : Ob, x = l[j] := ⟨_, rfl⟩
  have hxg : l[j]? = some x := by rw [hx]; exact List.getElem?_eq_getElem hlt
  rw [← hx] at hr hox
  have hiL := cells_is _ hox
  obtain ⟨L, hL⟩ : ∃ L : Array Value, L = x.cells.toArray := ⟨_, rfl⟩
  rw [← hL] at hiL
  have hlx : x.cells = L.toList := by rw [hL]
  rw [hlx] at hr
  have hzz : Z47.size = L.size := hiL.1.symm
  have kz := Bk.new wr 57 Z47
  have kS := setCells_whole kz hzz
  have bS := below_setCells (g := wr.heap.size) L.toList 0 (below_al wr (.cells Z47 57)) (Nat.le_refl _)
  exact ⟨b1, o1, x, L, _, rfl, hxg, hr, kz, rfl, hiL, hzz, bS, by simp, hox.below bS, kS, hL⟩
section
variable {P : Program} {ops : Array Oper} {rest : List Oper} {o : Oper} {a : Act} {w : World} {Q : Exit → Act → World → Prop} {g i : Nat}
theorem wpl_loadat4 {cs : List Value} (hr : w.rangeAt g i cs) (hw : Region.wanted o (yielded ops a.tmps) = true) (ty : TypeId) (x : Operand) (ho : o.op = .load ty x)
    (hx : a.eval x = .pointer (some ⟨g, i, none⟩)) (d : TypeDesc) (hu : P.underlying ty = some d) (hd : d.isRow = true) (hi : (P.info? ty).map (·.size) = some cs.length)
    (h : wpList P ops Q rest (a.put o.dst (.agg cs.toArray)) w) : wpList P ops Q (o :: rest) a w := by
  have hr := run_loadAt_mid (P := P) w g i ty cs d hr hu hd hi
  refine wpList_step fun K hK => ?_
  rw [if_pos hw]
  unfold Oper.wp execOp
  simp only [ho, hx, Sem.run_bind, hr, Result.andThen_ok, Sem.run_pure]
  exact hK _ _ h
end
end Go.Proofs.Ytkpklnalfomcbaa
end
section
namespace Go.Proofs.Ytkpklnalfomcbaa
open Go.RowKit Go.Proofs.Mem
set_option linter.unusedVariables false
set_option linter.unusedSimpArgs false
theorem cntN_self {k w p : ByteArray} {l : List Ob} : cntN k w l l p = cntS k w l p := rfl
theorem mem_cnts {key owner : ByteArray} {l : List Ob} {xs : List Nat} (h : ∀ x, x ∈ xs ↔ ∃ p, hasT key l l.length p = true ∧ cntN key owner l l p = x) (x : Nat) : x ∈ xs ↔ x ∈ (PL key l).map (cntS key owner l) := by
  rw [h, List.mem_map]
  constructor
  · rintro ⟨p, hp, rfl⟩
    exact ⟨p, hasT_all.1 hp, rfl⟩
  · rintro ⟨p, hp, rfl⟩
    exact ⟨p, hasT_all.2 hp, rfl⟩
theorem skew_any (key : ByteArray) (skew : Int) (owner : ByteArray) (w : World) (A : Option Addr) (c : Nat) (l : List Ob) (hA : Sl w 47 (.slice A l.length c) l.length (l.flatMap Ob.cells)) (hok : ∀ x ∈ l, x.Ok w) (hu : (kys l).Nodup) (hn : l.length ≤ 1000) :
    Calls Try.prog 9 #[.agg #[.string key, .int .i64 skew], .string owner, .slice A l.length c, .slice A l.length c] w fun e w' => e = .returned (.int .i64 ((highS key owner l : Int) - (lowS key owner l : Int))) ∧ Below w.heap.size w w' := by
  have hB1 := below_al w (.cells #[.string key, .int .i64 skew] 23)
  have k1 := Lib.hid (Bk.new w 23 #[.string key, .int .i64 skew])
  obtain ⟨W1, hW1⟩ : ∃ W1, W1 = w.alloc (.cells #[.string key, .int .i64 skew] 23) := ⟨_, rfl⟩
  have HW := Lib.hid hW1.symm
  rw [← hW1] at hB1 k1
  have CC := Lib.hid (counts_any key skew owner W1 A c l (hA.below hB1) (fun x hx => (hok x hx).below hB1) hu hn A c l (hA.below hB1) (fun x hx => (hok x hx).below hB1) hn)
  have HB := Lib.hid hB1
  have hl := low_le (k := key) (w := owner) (l := l)
  have hh := high_le (k := key) (w := owner) (l := l)
  obtain ⟨lo, hlo⟩ : ∃ n, n = lowS key owner l := ⟨_, rfl⟩
  obtain ⟨hi, hhi⟩ : ∃ n, n = highS key owner l := ⟨_, rfl⟩
  rw [← hlo] at hl ⊢
  rw [← hhi] at hh ⊢
  have HLO := Lib.hid hlo.symm
  have HHI := Lib.hid hhi.symm
  clear hB1 hW1 hA hok hu hlo hhi
  go_enter Try.func9, Try.ntmps9
  go_wp2_with ((with_reducible refine at_load_ ?_); refine wpl_loadg k1.out rfl 23 (.tmp 4) rfl rfl _ Try.underlying23 rfl (by kernel_rfl) ?_)
  rw [HW.out]
  refine CC.out.mono ?_
  rintro e W2 ⟨mo, n, D, rfl, hM, hn2, hC, hmo, b2⟩
  have H2 := Lib.hid (below_tr HB.out b2)
  have CE := Lib.hid (ends_any hM hC (fun p => Nat.le_trans (by rw [cntN_self]; exact cntS_le) (by omega : l.length ≤ 5000)) (by omega))
  clear hM hC b2 hmo hn2
  go_wp2_with fail
  refine CE.out.mono ?_
  rintro e W3 ⟨xs, rfl, hx, b3⟩
  have H3 := Lib.hid (below_tr H2.out b3)
  rw [min_mem (mem_cnts hx), max_mem (mem_cnts hx)]
  clear b3 hx
  rw [show ((PL key l).map (cntS key owner l)).min?.getD 0 = lowS key owner l from rfl, show ((PL key l).map (cntS key owner l)).max?.getD 0 = highS key owner l from rfl]
  rw [HLO.out, HHI.out]
  go_wp2_with fail
  go_ret
  exact ⟨by go_num, H3.out⟩
end Go.Proofs.Ytkpklnalfomcbaa
end
section
namespace Go.Proofs.Ytkpklnalfomcbaa
open Go.RowKit Go.Proofs.Mem
set_option linter.unusedVariables false
set_option linter.unusedSimpArgs false
def LCt (k w : ByteArray) (l : List Ob) (p : ByteArray) (j : Nat) : Nat := (((l.take j).filter (isP w)).map fun o => inC k l p o.p.node).sum
def ICt (k : ByteArray) (l : List Ob) (p n : ByteArray) (i : Nat) : Nat := (l.take i).countP fun x => decide (plc k x = some p) && decide (x.name = n)
theorem bne_of {α : Type} [BEq α] {a b : α} {v : Bool} (h : (a == b) = v) : (a != b) = !v := by rw [bne, h]
section
variable {k w p n : ByteArray} {l : List Ob} {x : Ob} {i j : Nat}
theorem LCt_zero : LCt k w l p 0 = 0 := by unfold LCt; simp
theorem LCt_next (hx : l[j]? = some x) : LCt k w l p (j + 1) = LCt k w l p j + if isP w x then inC k l p x.p.node else 0 := by
  unfold LCt
  rw [List.take_add_one, hx, List.filter_append, List.map_append, List.sum_append]
  show _ + (List.map _ (List.filter (isP w) [x])).sum = _
  cases h : isP w x
  · rw [List.filter_cons_of_neg (by simp [h])]
    simp
  · rw [List.filter_cons_of_pos h]
    simp
theorem LCt_all : LCt k w l p l.length = lawC k w l p := by unfold LCt lawC; rw [List.take_length]
theorem inC_le : inC k l p n ≤ l.length := List.countP_le_length
theorem LCt_le (k w : ByteArray) (l : List Ob) (p : ByteArray) : ∀ j, LCt k w l p j ≤ j * l.length
  | 0 => by rw [LCt_zero]; omega
  | j + 1 => by
    have ih := LCt_le k w l p j
    cases h : l[j]? with
    | none =>
      have : LCt k w l p (j + 1) = LCt k w l p j := by
        unfold LCt
        rw [List.take_add_one, h]
        simp
      rw [this, Nat.succ_mul]
      omega
    | some x =>
      rw [LCt_next h, Nat.succ_mul]
      have := inC_le (k := k) (p := p) (n := x.p.node) (l := l)
      split <;> omega
theorem ICt_zero : ICt k l p n 0 = 0 := by unfold ICt; simp
theorem ICt_next (hx : l[i]? = some x) : ICt k l p n (i + 1) = ICt k l p n i + if (decide (plc k x = some p) && decide (x.name = n)) = true then 1 else 0 := by
  unfold ICt
  rw [List.take_add_one, hx, List.countP_append]
  show _ + List.countP _ [x] = _
  rw [List.countP_cons]
  simp
theorem ICt_all : ICt k l p n l.length = inC k l p n := by unfold ICt inC; rw [List.take_length]
theorem ICt_le : ICt k l p n i ≤ l.length := by
  unfold ICt
  refine Nat.le_trans List.countP_le_length ?_
  rw [List.length_take]
  omega
end
def LcI (w : World) (bv : Array Value) (W : World) : Prop := Bk W w.heap.size 23 bv ∧ Below w.heap.size w W
def LcJ (w : World) (bv : Array Value) (b11 : Nat) (L : Array Value) (W : World) : Prop := LcI w bv W ∧ Bk W b11 57 L
set_option maxHeartbeats 8000000 in
set_option maxRecDepth 100000 in
theorem lcount_any (key : ByteArray) (skew : Int) (owner : ByteArray) (w : World) (A : Option Addr) (c : Nat) (l : List Ob) (hA : Sl w 47 (.slice A l.length c) l.length (l.flatMap Ob.cells)) (hok : ∀ x ∈ l, x.Ok w) (hn : l.length ≤ 1000) (p : ByteArray) :
    Calls Try.prog 15 #[.agg #[.string key, .int .i64 skew], .string owner, .slice A l.length c, .string p] w fun e w' => e = .returned (.int .i64 (lawC key owner l p)) ∧ Below w.heap.size w w' := by
  have HL := Lib.hid (And.intro hA (And.intro hok hn))
  have HU := Lib.hid (Try.underlying57)
  clear hA hok hn
  go_enter Try.func15, Try.ntmps15
  go_wp2_with fail
  have h0 : Hid (LcI w #[.string key, .int .i64 skew] (w.alloc (.cells #[.string key, .int .i64 skew] 23))) := Lib.hid ⟨Bk.new w _ _, below_al _ _⟩
  generalize w.alloc (.cells #[.string key, .int .i64 skew] 23) = W0 at h0 ⊢
  go_loopw [9, 18] (fun vn vi W => ∃ j : Nat, j ≤ l.length ∧ vi = .int .i64 j ∧ vn = .int .i64 (LCt key owner l p j) ∧ Hid (LcI w #[.string key, .int .i64 skew] W)) (fun _ vi _ => l.length - (intOf vi).toNat)
  case atStart => exact ⟨0, Nat.zero_le _, rfl, by rw [LCt_zero]; rfl, h0⟩
  case round =>
    clear h0
    obtain ⟨j, hj, rfl, rfl, hJ⟩ := hrel
    have hnn := HL.out.2.2
    have hle := LCt_le key owner l p j
    have hle2 : LCt key owner l p j ≤ 1000000 := Nat.le_trans hle (by have := Nat.mul_le_mul (show j ≤ 1000 by omega) hnn; omega)
    clear hle
    by_cases hlt : j < l.length
    · obtain ⟨b1, o1, x, L, W2, rfl, hxg, hC⟩ := c47_of HL.out.1 HL.out.2.1 hJ.out.2 hlt
      have HR := Lib.hid hC
      have hkS := hC.k
      have c0 := hkS.cell 0
      have c10 := hkS.cell 10
      have c12 := hkS.cell 12
      rw [show L[0]? = some (.int .i64 x.kind) by rw [hC.e]; rfl] at c0
      rw [show L[10]? = some (.string x.p.owner) by rw [hC.e]; rfl] at c10
      rw [show L[12]? = some (.int .i64 x.p.phase) by rw [hC.e]; rfl] at c12
      have hK2 : Hid (LcI w #[.string key, .int .i64 skew] W2) := Lib.hid ⟨hJ.out.1.below' hC.b, below_tr hJ.out.2 hC.b⟩
      have hnx := LCt_next (k := key) (w := owner) (p := p) hxg
      obtain ⟨nj, hnj⟩ : ∃ n, n = LCt key owner l p j := ⟨_, rfl⟩
      rw [← hnj] at hnx hle2 ⊢
      have hcs : (isP owner x = false ∧ ((x.kind == 1) = false ∨ ((x.kind == 1) = true ∧ (x.p.owner.toList == owner.toList) = false) ∨ ((x.kind == 1) = true ∧ (x.p.owner.toList == owner.toList) = true ∧ (x.p.phase == 1) = false ∧ (x.p.phase == 2) = false))) ∨ (isP owner x = true ∧ (x.kind == 1) = true ∧ (x.p.owner.toList == owner.toList) = true ∧ ((x.p.phase == 1) = true ∨ ((x.p.phase == 1) = false ∧ (x.p.phase == 2) = true))) := by
        by_cases h1 : x.kind = 1
        · by_cases h3 : x.p.owner = owner
          · by_cases h4 : x.p.phase = 1
            · exact .inr ⟨by simp [isP, h1, h3, h4], by simp [h1], by simp [h3], .inl (by simp [h4])⟩
            · by_cases h5 : x.p.phase = 2
              · exact .inr ⟨by simp [isP, h1, h3, h4, h5], by simp [h1], by simp [h3], .inr ⟨by simp [h4], by simp [h5]⟩⟩
              · exact .inl ⟨by simp [isP, h4, h5], .inr (.inr ⟨by simp [h1], by simp [h3], by simp [h4], by simp [h5]⟩)⟩
          · exact .inl ⟨by simp [isP, h3], .inr (.inl ⟨by simp [h1], tl_neS h3⟩)⟩
        · exact .inl ⟨by simp [isP, h1], .inl (by simp [h1])⟩
      clear hC hkS hJ
      rcases hcs with ⟨hp, hcs⟩ | ⟨hp, h1, h2, h3⟩
      · have HE : Hid (LCt key owner l p (j + 1) = nj) := Lib.hid (by rw [hnx, hp]; simp)
        clear hnx hp hnj
        rcases hcs with h1 | ⟨h1, h2⟩ | ⟨h1, h2, h3, h4⟩
        · have g1 : (x.kind != 1) = true := by simp [bne, h1]
          go_wp2_with (first | ((with_reducible refine at_load_ ?_); refine wpl_loadat4 HR.out.r rfl 57 (.tmp 20) rfl rfl _ HU.out rfl (by simpa using info47 HR.out.is) ?_; rw [HR.out.l]) | ((with_reducible refine at_alloc_ ?_); refine wpl_allocg rfl (run_alloc47 rfl _) ?_) | ((with_reducible refine at_store_ ?_); refine wpl_storeg HR.out.kz HR.out.zz rfl rfl 57 (.tmp 11) (.tmp 21) rfl rfl rfl (info47 HR.out.is) HR.out.is.2 ?_; rw [HR.out.w2]))
          exact ⟨⟨j + 1, by omega, by go_num, by rw [HE.out], hK2⟩, by simp [intOf]; omega⟩
        · have g1 : (x.kind != 1) = false := by simp [bne, h1]
          have g2 : (x.p.owner.toList != owner.toList) = true := by simp only [bne, h2, Bool.not_false]
          go_wp2_with (first | ((with_reducible refine at_load_ ?_); refine wpl_loadat4 HR.out.r rfl 57 (.tmp 20) rfl rfl _ HU.out rfl (by simpa using info47 HR.out.is) ?_; rw [HR.out.l]) | ((with_reducible refine at_alloc_ ?_); refine wpl_allocg rfl (run_alloc47 rfl _) ?_) | ((with_reducible refine at_store_ ?_); refine wpl_storeg HR.out.kz HR.out.zz rfl rfl 57 (.tmp 11) (.tmp 21) rfl rfl rfl (info47 HR.out.is) HR.out.is.2 ?_; rw [HR.out.w2]))
          exact ⟨⟨j + 1, by omega, by go_num, by rw [HE.out], hK2⟩, by simp [intOf]; omega⟩
        · have g1 : (x.kind != 1) = false := by simp [bne, h1]
          have g2 : (x.p.owner.toList != owner.toList) = false := by simp only [bne, h2, Bool.not_true]
          have g3 : (x.p.phase != 1) = true := by simp [bne, h3]
          have g4 : (x.p.phase != 2) = true := by simp [bne, h4]
          go_wp2_with (first | ((with_reducible refine at_load_ ?_); refine wpl_loadat4 HR.out.r rfl 57 (.tmp 20) rfl rfl _ HU.out rfl (by simpa using info47 HR.out.is) ?_; rw [HR.out.l]) | ((with_reducible refine at_alloc_ ?_); refine wpl_allocg rfl (run_alloc47 rfl _) ?_) | ((with_reducible refine at_store_ ?_); refine wpl_storeg HR.out.kz HR.out.zz rfl rfl 57 (.tmp 11) (.tmp 21) rfl rfl rfl (info47 HR.out.is) HR.out.is.2 ?_; rw [HR.out.w2]))
          exact ⟨⟨j + 1, by omega, by go_num, by rw [HE.out], hK2⟩, by simp [intOf]; omega⟩
      · have HE : Hid (LCt key owner l p (j + 1) = nj + inC key l p x.p.node) := Lib.hid (by rw [hnx, hp]; simp)
        have c11 := HR.out.k.cell 11
        rw [show L[11]? = some (.string x.p.node) by rw [HR.out.e]; rfl] at c11
        have HC11 := Lib.hid c11
        have HX := Lib.hid hxg
        clear hnx hp hnj c11 hxg
        have hph : ∃ a b : Bool, (x.p.phase == 1) = a ∧ (x.p.phase == 2) = b ∧ (a = true ∨ b = true) := ⟨_, _, rfl, rfl, by rcases h3 with h | ⟨_, h⟩; exact .inl h; exact .inr h⟩
        clear h3
        obtain ⟨ba, bb, h3, h4, h5⟩ := hph
        rcases h5 with rfl | rfl
        · have g1 : (x.kind != 1) = false := by simp [bne, h1]
          have g2 : (x.p.owner.toList != owner.toList) = false := by simp only [bne, h2, Bool.not_true]
          have g3 := bne_of h3
          have g4 := bne_of h4
          go_wp2_with (first | ((with_reducible refine at_load_ ?_); refine wpl_loadat4 HR.out.r rfl 57 (.tmp 20) rfl rfl _ HU.out rfl (by simpa using info47 HR.out.is) ?_; rw [HR.out.l]) | ((with_reducible refine at_alloc_ ?_); refine wpl_allocg rfl (run_alloc47 rfl _) ?_) | ((with_reducible refine at_store_ ?_); refine wpl_storeg HR.out.kz HR.out.zz rfl rfl 57 (.tmp 11) (.tmp 21) rfl rfl rfl (info47 HR.out.is) HR.out.is.2 ?_; rw [HR.out.w2]))
          obtain ⟨n0, hn0⟩ : ∃ n, n = wr.heap.size := ⟨_, rfl⟩
          have h1' : Hid (LcJ w #[.string key, .int .i64 skew] n0 L W2) := Lib.hid ⟨hK2.out, by rw [hn0]; exact HR.out.k⟩
          have HN0 := Lib.hid hn0
          clear c0 c10 c12 h1 h2 h3 h4 g1 g2 g3 g4 hn0
          go_loopw [9, 46] (fun vn vi W => ∃ i : Nat, i ≤ l.length ∧ vi = .int .i64 i ∧ vn = .int .i64 ((nj + ICt key l p x.p.node i : Nat) : Int) ∧ Hid (LcJ w #[.string key, .int .i64 skew] n0 L W)) (fun _ vi _ => l.length - (intOf vi).toNat)
          case atStart => exact ⟨0, Nat.zero_le _, rfl, by rw [ICt_zero]; rfl, h1'⟩
          case round =>
            clear h1'
            obtain ⟨i, hi, rfl, rfl, hI⟩ := hrel
            have hic : ICt key l p x.p.node i ≤ l.length := ICt_le
            by_cases hlt2 : i < l.length
            · obtain ⟨b2, o2, y, L2, W3, hA2, hyg, hC2⟩ := c47_of HL.out.1 HL.out.2.1 hI.out.1.2 hlt2
              injection hA2 with hA2
              injection hA2 with e1 e2
              subst e1
              subst e2
              have HR2 := Lib.hid hC2
              have hK3 := Lib.hid (hI.out.1.1.below' hC2.b)
              have hB3 := Lib.hid (below_tr hI.out.1.2 hC2.b)
              have hb11 := Lib.hid (hI.out.2.below' hC2.b)
              have hnx2 := ICt_next (k := key) (p := p) (n := x.p.node) hyg
              obtain ⟨ni, hni⟩ : ∃ n, n = ICt key l p x.p.node i := ⟨_, rfl⟩
              rw [← hni] at hnx2 hic ⊢
              clear hC2 hI hni hyg
              go_wp2_with (first | ((with_reducible refine at_load_ ?_); refine wpl_loadat4 HR2.out.r rfl 57 (.tmp 48) rfl rfl _ HU.out rfl (by simpa using info47 HR2.out.is) ?_; rw [HR2.out.l]) | ((with_reducible refine at_alloc_ ?_); refine wpl_allocg rfl (run_alloc47 rfl _) ?_) | ((with_reducible refine at_store_ ?_); refine wpl_storeg HR2.out.kz HR2.out.zz rfl rfl 57 (.tmp 13) (.tmp 49) rfl rfl rfl (info47 HR2.out.is) HR2.out.is.2 ?_; rw [HR2.out.w2]) | ((with_reducible refine at_load_ ?_); refine wpl_loadg hK3.out rfl 23 (.tmp 4) rfl rfl _ Try.underlying23 rfl (by kernel_rfl) ?_) | ((with_reducible refine at_load_ ?_); refine wpl_loadg HR2.out.k rfl 57 (.tmp 13) rfl rfl _ HU.out rfl (info47 HR2.out.is) ?_))
              rw [HR2.out.e]
              refine (lplace_any key skew y W3 HR2.out.ok).mono ?_
              rintro e W4 ⟨rfl, b4⟩
              have d1 := (HR2.out.k.below' b4).cell 1
              rw [show L2[1]? = some (.string y.name) by rw [HR2.out.e]; rfl] at d1
              have d11 := (hb11.out.below' b4).cell 11
              rw [show L[11]? = some (.string x.p.node) by rw [HR.out.e]; rfl, HN0.out] at d11
              have hJ4 : Hid (LcJ w #[.string key, .int .i64 skew] n0 L W4) := Lib.hid ⟨⟨hK3.out.below' b4, below_tr hB3.out b4⟩, hb11.out.below' b4⟩
              clear b4 hK3 hB3 hb11
              cases hq : plc key y with
              | none =>
                simp only [Option.getD_none, Option.isSome_none]
                rw [hq] at hnx2
                have HE2 : Hid (ICt key l p x.p.node (i + 1) = ni) := Lib.hid (by rw [hnx2]; simp)
                clear hnx2 hq
                go_wp2_with fail
                exact ⟨⟨i + 1, by omega, by go_num, by rw [HE2.out]; go_num, hJ4⟩, by simp [intOf]; omega⟩
              | some q =>
                simp only [Option.getD_some, Option.isSome_some]
                rw [hq] at hnx2
                by_cases hqp : q = p
                · subst hqp
                  by_cases hyn : y.name = x.p.node
                  · have hm : (y.name.toList == x.p.node.toList) = true := by rw [hyn]; simp
                    have HE2 : Hid (ICt key l q x.p.node (i + 1) = ni + 1) := Lib.hid (by rw [hnx2]; simp [hyn])
                    clear hnx2 hq hyn
                    go_wp2_with fail
                    exact ⟨⟨i + 1, by omega, by go_num, by rw [HE2.out]; go_num, hJ4⟩, by simp [intOf]; omega⟩
                  · have hm := tl_neS hyn
                    have HE2 : Hid (ICt key l q x.p.node (i + 1) = ni) := Lib.hid (by rw [hnx2]; simp [hyn])
                    clear hnx2 hq hyn
                    go_wp2_with fail
                    exact ⟨⟨i + 1, by omega, by go_num, by rw [HE2.out]; go_num, hJ4⟩, by simp [intOf]; omega⟩
                · have hm := tl_neS hqp
                  have HE2 : Hid (ICt key l p x.p.node (i + 1) = ni) := Lib.hid (by rw [hnx2]; simp [hqp])
                  clear hnx2 hq hqp
                  go_wp2_with fail
                  exact ⟨⟨i + 1, by omega, by go_num, by rw [HE2.out]; go_num, hJ4⟩, by simp [intOf]; omega⟩
            · have hil : i = l.length := by omega
              subst hil
              have HE3 : Hid (LCt key owner l p (j + 1) = nj + ICt key l p x.p.node l.length) := Lib.hid (by rw [HE.out, ICt_all])
              have HI2 := Lib.hid hI.out.1
              clear hI
              go_wp2_with fail
              exact ⟨⟨j + 1, by omega, by go_num, by rw [HE3.out], HI2⟩, by simp [intOf]; omega⟩

        rcases ba with _ | _
        · have g1 : (x.kind != 1) = false := by simp [bne, h1]
          have g2 : (x.p.owner.toList != owner.toList) = false := by simp only [bne, h2, Bool.not_true]
          have g3 := bne_of h3
          have g4 := bne_of h4
          go_wp2_with (first | ((with_reducible refine at_load_ ?_); refine wpl_loadat4 HR.out.r rfl 57 (.tmp 20) rfl rfl _ HU.out rfl (by simpa using info47 HR.out.is) ?_; rw [HR.out.l]) | ((with_reducible refine at_alloc_ ?_); refine wpl_allocg rfl (run_alloc47 rfl _) ?_) | ((with_reducible refine at_store_ ?_); refine wpl_storeg HR.out.kz HR.out.zz rfl rfl 57 (.tmp 11) (.tmp 21) rfl rfl rfl (info47 HR.out.is) HR.out.is.2 ?_; rw [HR.out.w2]))
          obtain ⟨n0, hn0⟩ : ∃ n, n = wr.heap.size := ⟨_, rfl⟩
          have h1' : Hid (LcJ w #[.string key, .int .i64 skew] n0 L W2) := Lib.hid ⟨hK2.out, by rw [hn0]; exact HR.out.k⟩
          have HN0 := Lib.hid hn0
          clear c0 c10 c12 h1 h2 h3 h4 g1 g2 g3 g4 hn0
          go_loopw [9, 46] (fun vn vi W => ∃ i : Nat, i ≤ l.length ∧ vi = .int .i64 i ∧ vn = .int .i64 ((nj + ICt key l p x.p.node i : Nat) : Int) ∧ Hid (LcJ w #[.string key, .int .i64 skew] n0 L W)) (fun _ vi _ => l.length - (intOf vi).toNat)
          case atStart => exact ⟨0, Nat.zero_le _, rfl, by rw [ICt_zero]; rfl, h1'⟩
          case round =>
            clear h1'
            obtain ⟨i, hi, rfl, rfl, hI⟩ := hrel
            have hic : ICt key l p x.p.node i ≤ l.length := ICt_le
            by_cases hlt2 : i < l.length
            · obtain ⟨b2, o2, y, L2, W3, hA2, hyg, hC2⟩ := c47_of HL.out.1 HL.out.2.1 hI.out.1.2 hlt2
              injection hA2 with hA2
              injection hA2 with e1 e2
              subst e1
              subst e2
              have HR2 := Lib.hid hC2
              have hK3 := Lib.hid (hI.out.1.1.below' hC2.b)
              have hB3 := Lib.hid (below_tr hI.out.1.2 hC2.b)
              have hb11 := Lib.hid (hI.out.2.below' hC2.b)
              have hnx2 := ICt_next (k := key) (p := p) (n := x.p.node) hyg
              obtain ⟨ni, hni⟩ : ∃ n, n = ICt key l p x.p.node i := ⟨_, rfl⟩
              rw [← hni] at hnx2 hic ⊢
              clear hC2 hI hni hyg
              go_wp2_with (first | ((with_reducible refine at_load_ ?_); refine wpl_loadat4 HR2.out.r rfl 57 (.tmp 48) rfl rfl _ HU.out rfl (by simpa using info47 HR2.out.is) ?_; rw [HR2.out.l]) | ((with_reducible refine at_alloc_ ?_); refine wpl_allocg rfl (run_alloc47 rfl _) ?_) | ((with_reducible refine at_store_ ?_); refine wpl_storeg HR2.out.kz HR2.out.zz rfl rfl 57 (.tmp 13) (.tmp 49) rfl rfl rfl (info47 HR2.out.is) HR2.out.is.2 ?_; rw [HR2.out.w2]) | ((with_reducible refine at_load_ ?_); refine wpl_loadg hK3.out rfl 23 (.tmp 4) rfl rfl _ Try.underlying23 rfl (by kernel_rfl) ?_) | ((with_reducible refine at_load_ ?_); refine wpl_loadg HR2.out.k rfl 57 (.tmp 13) rfl rfl _ HU.out rfl (info47 HR2.out.is) ?_))
              rw [HR2.out.e]
              refine (lplace_any key skew y W3 HR2.out.ok).mono ?_
              rintro e W4 ⟨rfl, b4⟩
              have d1 := (HR2.out.k.below' b4).cell 1
              rw [show L2[1]? = some (.string y.name) by rw [HR2.out.e]; rfl] at d1
              have d11 := (hb11.out.below' b4).cell 11
              rw [show L[11]? = some (.string x.p.node) by rw [HR.out.e]; rfl, HN0.out] at d11
              have hJ4 : Hid (LcJ w #[.string key, .int .i64 skew] n0 L W4) := Lib.hid ⟨⟨hK3.out.below' b4, below_tr hB3.out b4⟩, hb11.out.below' b4⟩
              clear b4 hK3 hB3 hb11
              cases hq : plc key y with
              | none =>
                simp only [Option.getD_none, Option.isSome_none]
                rw [hq] at hnx2
                have HE2 : Hid (ICt key l p x.p.node (i + 1) = ni) := Lib.hid (by rw [hnx2]; simp)
                clear hnx2 hq
                go_wp2_with fail
                exact ⟨⟨i + 1, by omega, by go_num, by rw [HE2.out]; go_num, hJ4⟩, by simp [intOf]; omega⟩
              | some q =>
                simp only [Option.getD_some, Option.isSome_some]
                rw [hq] at hnx2
                by_cases hqp : q = p
                · subst hqp
                  by_cases hyn : y.name = x.p.node
                  · have hm : (y.name.toList == x.p.node.toList) = true := by rw [hyn]; simp
                    have HE2 : Hid (ICt key l q x.p.node (i + 1) = ni + 1) := Lib.hid (by rw [hnx2]; simp [hyn])
                    clear hnx2 hq hyn
                    go_wp2_with fail
                    exact ⟨⟨i + 1, by omega, by go_num, by rw [HE2.out]; go_num, hJ4⟩, by simp [intOf]; omega⟩
                  · have hm := tl_neS hyn
                    have HE2 : Hid (ICt key l q x.p.node (i + 1) = ni) := Lib.hid (by rw [hnx2]; simp [hyn])
                    clear hnx2 hq hyn
                    go_wp2_with fail
                    exact ⟨⟨i + 1, by omega, by go_num, by rw [HE2.out]; go_num, hJ4⟩, by simp [intOf]; omega⟩
                · have hm := tl_neS hqp
                  have HE2 : Hid (ICt key l p x.p.node (i + 1) = ni) := Lib.hid (by rw [hnx2]; simp [hqp])
                  clear hnx2 hq hqp
                  go_wp2_with fail
                  exact ⟨⟨i + 1, by omega, by go_num, by rw [HE2.out]; go_num, hJ4⟩, by simp [intOf]; omega⟩
            · have hil : i = l.length := by omega
              subst hil
              have HE3 : Hid (LCt key owner l p (j + 1) = nj + ICt key l p x.p.node l.length) := Lib.hid (by rw [HE.out, ICt_all])
              have HI2 := Lib.hid hI.out.1
              clear hI
              go_wp2_with fail
              exact ⟨⟨j + 1, by omega, by go_num, by rw [HE3.out], HI2⟩, by simp [intOf]; omega⟩

        · have g1 : (x.kind != 1) = false := by simp [bne, h1]
          have g2 : (x.p.owner.toList != owner.toList) = false := by simp only [bne, h2, Bool.not_true]
          have g3 := bne_of h3
          have g4 := bne_of h4
          go_wp2_with (first | ((with_reducible refine at_load_ ?_); refine wpl_loadat4 HR.out.r rfl 57 (.tmp 20) rfl rfl _ HU.out rfl (by simpa using info47 HR.out.is) ?_; rw [HR.out.l]) | ((with_reducible refine at_alloc_ ?_); refine wpl_allocg rfl (run_alloc47 rfl _) ?_) | ((with_reducible refine at_store_ ?_); refine wpl_storeg HR.out.kz HR.out.zz rfl rfl 57 (.tmp 11) (.tmp 21) rfl rfl rfl (info47 HR.out.is) HR.out.is.2 ?_; rw [HR.out.w2]))
          obtain ⟨n0, hn0⟩ : ∃ n, n = wr.heap.size := ⟨_, rfl⟩
          have h1' : Hid (LcJ w #[.string key, .int .i64 skew] n0 L W2) := Lib.hid ⟨hK2.out, by rw [hn0]; exact HR.out.k⟩
          have HN0 := Lib.hid hn0
          clear c0 c10 c12 h1 h2 h3 h4 g1 g2 g3 g4 hn0
          go_loopw [9, 46] (fun vn vi W => ∃ i : Nat, i ≤ l.length ∧ vi = .int .i64 i ∧ vn = .int .i64 ((nj + ICt key l p x.p.node i : Nat) : Int) ∧ Hid (LcJ w #[.string key, .int .i64 skew] n0 L W)) (fun _ vi _ => l.length - (intOf vi).toNat)
          case atStart => exact ⟨0, Nat.zero_le _, rfl, by rw [ICt_zero]; rfl, h1'⟩
          case round =>
            clear h1'
            obtain ⟨i, hi, rfl, rfl, hI⟩ := hrel
            have hic : ICt key l p x.p.node i ≤ l.length := ICt_le
            by_cases hlt2 : i < l.length
            · obtain ⟨b2, o2, y, L2, W3, hA2, hyg, hC2⟩ := c47_of HL.out.1 HL.out.2.1 hI.out.1.2 hlt2
              injection hA2 with hA2
              injection hA2 with e1 e2
              subst e1
              subst e2
              have HR2 := Lib.hid hC2
              have hK3 := Lib.hid (hI.out.1.1.below' hC2.b)
              have hB3 := Lib.hid (below_tr hI.out.1.2 hC2.b)
              have hb11 := Lib.hid (hI.out.2.below' hC2.b)
              have hnx2 := ICt_next (k := key) (p := p) (n := x.p.node) hyg
              obtain ⟨ni, hni⟩ : ∃ n, n = ICt key l p x.p.node i := ⟨_, rfl⟩
              rw [← hni] at hnx2 hic ⊢
              clear hC2 hI hni hyg
              go_wp2_with (first | ((with_reducible refine at_load_ ?_); refine wpl_loadat4 HR2.out.r rfl 57 (.tmp 48) rfl rfl _ HU.out rfl (by simpa using info47 HR2.out.is) ?_; rw [HR2.out.l]) | ((with_reducible refine at_alloc_ ?_); refine wpl_allocg rfl (run_alloc47 rfl _) ?_) | ((with_reducible refine at_store_ ?_); refine wpl_storeg HR2.out.kz HR2.out.zz rfl rfl 57 (.tmp 13) (.tmp 49) rfl rfl rfl (info47 HR2.out.is) HR2.out.is.2 ?_; rw [HR2.out.w2]) | ((with_reducible refine at_load_ ?_); refine wpl_loadg hK3.out rfl 23 (.tmp 4) rfl rfl _ Try.underlying23 rfl (by kernel_rfl) ?_) | ((with_reducible refine at_load_ ?_); refine wpl_loadg HR2.out.k rfl 57 (.tmp 13) rfl rfl _ HU.out rfl (info47 HR2.out.is) ?_))
              rw [HR2.out.e]
              refine (lplace_any key skew y W3 HR2.out.ok).mono ?_
              rintro e W4 ⟨rfl, b4⟩
              have d1 := (HR2.out.k.below' b4).cell 1
              rw [show L2[1]? = some (.string y.name) by rw [HR2.out.e]; rfl] at d1
              have d11 := (hb11.out.below' b4).cell 11
              rw [show L[11]? = some (.string x.p.node) by rw [HR.out.e]; rfl, HN0.out] at d11
              have hJ4 : Hid (LcJ w #[.string key, .int .i64 skew] n0 L W4) := Lib.hid ⟨⟨hK3.out.below' b4, below_tr hB3.out b4⟩, hb11.out.below' b4⟩
              clear b4 hK3 hB3 hb11
              cases hq : plc key y with
              | none =>
                simp only [Option.getD_none, Option.isSome_none]
                rw [hq] at hnx2
                have HE2 : Hid (ICt key l p x.p.node (i + 1) = ni) := Lib.hid (by rw [hnx2]; simp)
                clear hnx2 hq
                go_wp2_with fail
                exact ⟨⟨i + 1, by omega, by go_num, by rw [HE2.out]; go_num, hJ4⟩, by simp [intOf]; omega⟩
              | some q =>
                simp only [Option.getD_some, Option.isSome_some]
                rw [hq] at hnx2
                by_cases hqp : q = p
                · subst hqp
                  by_cases hyn : y.name = x.p.node
                  · have hm : (y.name.toList == x.p.node.toList) = true := by rw [hyn]; simp
                    have HE2 : Hid (ICt key l q x.p.node (i + 1) = ni + 1) := Lib.hid (by rw [hnx2]; simp [hyn])
                    clear hnx2 hq hyn
                    go_wp2_with fail
                    exact ⟨⟨i + 1, by omega, by go_num, by rw [HE2.out]; go_num, hJ4⟩, by simp [intOf]; omega⟩
                  · have hm := tl_neS hyn
                    have HE2 : Hid (ICt key l q x.p.node (i + 1) = ni) := Lib.hid (by rw [hnx2]; simp [hyn])
                    clear hnx2 hq hyn
                    go_wp2_with fail
                    exact ⟨⟨i + 1, by omega, by go_num, by rw [HE2.out]; go_num, hJ4⟩, by simp [intOf]; omega⟩
                · have hm := tl_neS hqp
                  have HE2 : Hid (ICt key l p x.p.node (i + 1) = ni) := Lib.hid (by rw [hnx2]; simp [hqp])
                  clear hnx2 hq hqp
                  go_wp2_with fail
                  exact ⟨⟨i + 1, by omega, by go_num, by rw [HE2.out]; go_num, hJ4⟩, by simp [intOf]; omega⟩
            · have hil : i = l.length := by omega
              subst hil
              have HE3 : Hid (LCt key owner l p (j + 1) = nj + ICt key l p x.p.node l.length) := Lib.hid (by rw [HE.out, ICt_all])
              have HI2 := Lib.hid hI.out.1
              clear hI
              go_wp2_with fail
              exact ⟨⟨j + 1, by omega, by go_num, by rw [HE3.out], HI2⟩, by simp [intOf]; omega⟩

    · have hjl : j = l.length := by omega
      subst hjl
      have HE := Lib.hid hJ.out.2
      clear hJ
      rw [LCt_all]
      go_wp2_with fail
      go_ret
      exact ⟨rfl, HE.out⟩
end Go.Proofs.Ytkpklnalfomcbaa
end
section
namespace Go.Proofs.Ytkpklnalfomcbaa
open Go.RowKit Go.Proofs.Mem
set_option linter.unusedVariables false
set_option linter.unusedSimpArgs false
theorem VL_el {k w : ByteArray} {l : List Ob} {i n : Nat} (h : n ∈ VL k w l i) : n ≤ l.length := by
  unfold VL at h
  obtain ⟨p, _, rfl⟩ := List.mem_map.1 h
  exact cntS_le
theorem min_le_of {l : List Nat} {b : Nat} (h : ∀ x ∈ l, x ≤ b) : l.min?.getD 0 ≤ b := by
  cases hm : l.min? with
  | none => exact Nat.zero_le _
  | some a => exact h a (List.min?_eq_some_iff.1 hm).1
theorem max_le_of {l : List Nat} {b : Nat} (h : ∀ x ∈ l, x ≤ b) : l.max?.getD 0 ≤ b := by
  cases hm : l.max? with
  | none => exact Nat.zero_le _
  | some a => exact h a (List.max?_eq_some_iff.1 hm).1
set_option maxHeartbeats 8000000 in
set_option maxRecDepth 100000 in
theorem lends_any (key : ByteArray) (skew : Int) (owner : ByteArray) (w : World) (A : Option Addr) (c : Nat) (l : List Ob) (hA : Sl w 47 (.slice A l.length c) l.length (l.flatMap Ob.cells)) (hok : ∀ x ∈ l, x.Ok w) (hu : (kys l).Nodup) (hn : l.length ≤ 1000) :
    Calls Try.prog 11 #[.agg #[.string key, .int .i64 skew], .string owner, .slice A l.length c] w fun e w' => e = .returned (.tuple #[.int .i64 (lowS key owner l : Int), .int .i64 (highS key owner l : Int), .bool (decide (PL key l ≠ []))]) ∧ Below w.heap.size w w' := by
  have HL := Lib.hid (And.intro hA (And.intro hok (And.intro hn hu)))
  have HU := Lib.hid (Try.underlying57)
  clear hA hok hn hu
  go_enter Try.func11, Try.ntmps11
  go_wp2_with fail
  have h0 : Hid (LcI w #[.string key, .int .i64 skew] (w.alloc (.cells #[.string key, .int .i64 skew] 23))) := Lib.hid ⟨Bk.new w _ _, below_al _ _⟩
  generalize w.alloc (.cells #[.string key, .int .i64 skew] 23) = W0 at h0 ⊢
  go_loopw [9, 10, 11, 19] (fun vl vh vm vi W => ∃ j : Nat, j ≤ l.length ∧ vi = .int .i64 j ∧ vl = .int .i64 (((VL key owner l j).min?.getD 0 : Nat) : Int) ∧ vh = .int .i64 (((VL key owner l j).max?.getD 0 : Nat) : Int) ∧ vm = .bool (decide (VL key owner l j ≠ [])) ∧ Hid (LcI w #[.string key, .int .i64 skew] W)) (fun _ _ _ vi _ => l.length - (intOf vi).toNat)
  case atStart => exact ⟨0, Nat.zero_le _, rfl, by rw [VL_zero]; rfl, by rw [VL_zero]; rfl, by rw [VL_zero]; rfl, h0⟩
  case round =>
    clear h0
    obtain ⟨j, hj, rfl, rfl, rfl, rfl, hJ⟩ := hrel
    have hnn := HL.out.2.2.1
    by_cases hlt : j < l.length
    · obtain ⟨b1, o1, x, L, W2, rfl, hxg, hC⟩ := c47_of HL.out.1 HL.out.2.1 hJ.out.2 hlt
      have HR := Lib.hid hC
      have hK := Lib.hid (hJ.out.1.below' hC.b)
      have hB2 := Lib.hid (below_tr hJ.out.2 hC.b)
      have hnx := VL_next (k := key) (w := owner) hxg
      have hel : ∀ n ∈ VL key owner l j, n ≤ l.length := fun n h => VL_el h
      obtain ⟨V, hV⟩ : ∃ V, V = VL key owner l j := ⟨_, rfl⟩
      rw [← hV] at hnx hel ⊢
      obtain ⟨m, hm⟩ : ∃ m, m = decide (V ≠ []) := ⟨_, rfl⟩
      rw [← hm]
      have HM := Lib.hid hm
      clear hm
      have hlo := min_le_of hel
      have hhi := max_le_of hel
      have HX := Lib.hid (And.intro hnx hxg)
      clear hC hJ hV hnx hxg hel
      go_wp2_with (first | ((with_reducible refine at_load_ ?_); refine wpl_loadat4 HR.out.r rfl 57 (.tmp 21) rfl rfl _ HU.out rfl (by simpa using info47 HR.out.is) ?_; rw [HR.out.l]) | ((with_reducible refine at_alloc_ ?_); refine wpl_allocg rfl (run_alloc47 rfl _) ?_) | ((with_reducible refine at_store_ ?_); refine wpl_storeg HR.out.kz HR.out.zz rfl rfl 57 (.tmp 13) (.tmp 22) rfl rfl rfl (info47 HR.out.is) HR.out.is.2 ?_; rw [HR.out.w2]) | ((with_reducible refine at_load_ ?_); refine wpl_loadg hK.out rfl 23 (.tmp 3) rfl rfl _ Try.underlying23 rfl (by kernel_rfl) ?_) | ((with_reducible refine at_load_ ?_); refine wpl_loadg HR.out.k rfl 57 (.tmp 13) rfl rfl _ HU.out rfl (info47 HR.out.is) ?_))
      rw [HR.out.e]
      refine (lplace_any key skew x W2 HR.out.ok).mono ?_
      rintro e W3 ⟨rfl, b3⟩
      have hK3 := Lib.hid (hK.out.below' b3)
      have hB3 := Lib.hid (below_tr hB2.out b3)
      clear b3
      cases hq : plc key x with
      | none =>
        simp only [Option.getD_none, Option.isSome_none]
        have HE : Hid (VL key owner l (j + 1) = V) := Lib.hid (by rw [HX.out.1, hq])
        have HI : Hid (LcI w #[.string key, .int .i64 skew] W3) := Lib.hid ⟨hK3.out, hB3.out⟩
        clear hq
        go_wp2_with fail
        exact ⟨⟨j + 1, by omega, by go_num, by rw [HE.out], by rw [HE.out], by rw [HE.out, HM.out], HI⟩, by simp [intOf]; omega⟩
      | some q =>
        simp only [Option.getD_some, Option.isSome_some]
        have HE : Hid (VL key owner l (j + 1) = V ++ [cntS key owner l q]) := Lib.hid (by rw [HX.out.1, hq])
        clear hq
        go_wp2_with ((with_reducible refine at_load_ ?_); refine wpl_loadg hK3.out rfl 23 (.tmp 3) rfl rfl _ Try.underlying23 rfl (by kernel_rfl) ?_)
        refine (lcount_any key skew owner W3 _ c l (HL.out.1.below hB3.out) (fun x hx => (HL.out.2.1 x hx).below hB3.out) HL.out.2.2.1 q).mono ?_
        rintro e W4 ⟨rfl, b4⟩
        rw [lawC_eq HL.out.2.2.2]
        have HI : Hid (LcI w #[.string key, .int .i64 skew] W4) := Lib.hid ⟨hK3.out.below' b4, below_tr hB3.out b4⟩
        have hnq : cntS key owner l q ≤ l.length := cntS_le
        obtain ⟨n, hnv⟩ : ∃ n, n = cntS key owner l q := ⟨_, rfl⟩
        rw [← hnv] at HE hnq ⊢
        have HMi := Lib.hid (min_app V n)
        have HMa := Lib.hid (max_app V n)
        clear b4 hnv
        by_cases hv : V = []
        · subst hv
          have hd : m = false := HM.out
          subst hd
          clear HM
          go_wp2_with fail
          exact ⟨⟨j + 1, by omega, by go_num, by rw [HE.out]; rfl, by rw [HE.out]; rfl, by rw [HE.out]; rfl, HI⟩, by simp [intOf]; omega⟩
        · have hd : m = true := by rw [HM.out]; simpa using hv
          clear HM
          subst hd
          have HV := Lib.hid (And.intro (by rw [HMi.out, if_neg hv] : (V ++ [n]).min?.getD 0 = _) (by rw [HMa.out, if_neg hv] : (V ++ [n]).max?.getD 0 = _))
          obtain ⟨lo, hlv⟩ : ∃ a, a = V.min?.getD 0 := ⟨_, rfl⟩
          obtain ⟨hi, hhv⟩ : ∃ a, a = V.max?.getD 0 := ⟨_, rfl⟩
          rw [← hlv, ← hhv] at HV ⊢
          rw [← hlv] at hlo
          rw [← hhv] at hhi
          have hne : decide (V ++ [n] ≠ []) = true := by simp
          have HNE := Lib.hid hne
          clear hlv hhv HMi HMa hv hne
          by_cases h1 : n < lo
          · by_cases h2 : n > hi
            · go_wp2_with fail
              exact ⟨⟨j + 1, by omega, by go_num, by rw [HE.out, HV.out.1, if_pos h1], by rw [HE.out, HV.out.2, if_pos h2], by rw [HE.out, HNE.out], HI⟩, by simp [intOf]; omega⟩
            · go_wp2_with fail
              exact ⟨⟨j + 1, by omega, by go_num, by rw [HE.out, HV.out.1, if_pos h1], by rw [HE.out, HV.out.2, if_neg h2], by rw [HE.out, HNE.out], HI⟩, by simp [intOf]; omega⟩
          · by_cases h2 : n > hi
            · go_wp2_with fail
              exact ⟨⟨j + 1, by omega, by go_num, by rw [HE.out, HV.out.1, if_neg h1], by rw [HE.out, HV.out.2, if_pos h2], by rw [HE.out, HNE.out], HI⟩, by simp [intOf]; omega⟩
            · go_wp2_with fail
              exact ⟨⟨j + 1, by omega, by go_num, by rw [HE.out, HV.out.1, if_neg h1], by rw [HE.out, HV.out.2, if_neg h2], by rw [HE.out, HNE.out], HI⟩, by simp [intOf]; omega⟩
    · have hjl : j = l.length := by omega
      subst hjl
      have HE := Lib.hid hJ.out.2
      clear hJ
      rw [VL_low, VL_high]
      have hm : decide (VL key owner l l.length ≠ []) = decide (PL key l ≠ []) := decide_eq_decide.2 (not_congr VL_met)
      rw [hm]
      clear hm
      go_wp2_with fail
      go_ret3
      exact ⟨rfl, HE.out⟩
end Go.Proofs.Ytkpklnalfomcbaa
end
section
namespace Go.Proofs.Ytkpklnalfomcbaa
open Go.RowKit Go.Proofs.Mem
set_option linter.unusedVariables false
set_option linter.unusedSimpArgs false
def FwP (l : List Ob) (j : Nat) : Prop := (kys (l.take j)).Nodup ∧ ∀ x ∈ l.take j, errO x = 0
theorem fwP_zero (l : List Ob) : FwP l 0 := ⟨by simp [kys], fun x hx => by simp at hx⟩
theorem fwP_next {l : List Ob} {j : Nat} {x : Ob} (h : FwP l j) (hx : l[j]? = some x) (he : errO x = 0) (hk : ∀ i, i < j → ∀ y, l[i]? = some y → ¬ (y.kind = x.kind ∧ y.name = x.name)) : FwP l (j + 1) := by
  refine ⟨?_, fun y hy => ?_⟩
  · rw [List.take_add_one, hx]
    show (kys (l.take j ++ [x])).Nodup
    unfold kys
    rw [List.map_append]
    refine List.nodup_append.2 ⟨h.1, by simp, ?_⟩
    intro a ha b hb e
    rw [List.map_singleton, List.mem_singleton] at hb
    obtain ⟨y, hy, rfl⟩ := List.mem_map.1 ha
    obtain ⟨i, hi, rfl⟩ := List.getElem_of_mem hy
    rw [List.length_take] at hi
    have hil : i < l.length := by omega
    have hj : i < j := by omega
    have hk1 := hk i hj l[i] (List.getElem?_eq_getElem hil)
    have hk2 : (l.take j)[i]'(by rw [List.length_take]; omega) = l[i] := List.getElem_take
    rw [hk2] at e
    rw [hb] at e
    injection e with e1 e2
    exact hk1 ⟨e1, e2⟩
  · rw [List.take_add_one, hx] at hy
    rcases List.mem_append.1 hy with hy | hy
    · exact h.2 y hy
    · have : y = x := by simpa using hy
      rw [this]
      exact he
def FwK (l : List Ob) (x : Ob) (k : Nat) : Prop := ∀ i, i < k → ∀ y, l[i]? = some y → ¬ (y.kind = x.kind ∧ y.name = x.name)
theorem fwK_next {l : List Ob} {x y : Ob} {k : Nat} (h : FwK l x k) (hy : l[k]? = some y) (hne : ¬ (y.kind = x.kind ∧ y.name = x.name)) : FwK l x (k + 1) := fun i hi z hz => by
  by_cases e : i = k
  · subst e
    rw [hy] at hz
    injection hz with hz
    subst hz
    exact hne
  · exact h i (by omega) z hz
def FwJ (w : World) (n0 : Nat) (L : Array Value) (W : World) : Prop := Below w.heap.size w W ∧ Bk W n0 57 L
set_option maxHeartbeats 8000000 in
set_option maxRecDepth 100000 in
theorem few17_any (w : World) (A : Option Addr) (c : Nat) (l : List Ob) (hA : Sl w 47 (.slice A l.length c) l.length (l.flatMap Ob.cells)) (hok : ∀ x ∈ l, x.Ok w) (hlen : l.length ≤ maxLen) :
    Calls Try.prog 7 #[.slice A l.length c] w fun e w' => ∃ b, e = .returned (.bool b) ∧ (b = true → l.length ≤ 60 ∧ (kys l).Nodup ∧ ∀ x ∈ l, errO x = 0) ∧ Below w.heap.size w w' := by
  have HL := Lib.hid (And.intro hA hok)
  have HU := Lib.hid (Try.underlying57)
  have hml : l.length ≤ 9223372036854775807 := by unfold maxLen at hlen; omega
  clear hA hok hlen
  go_enter Try.func7, Try.ntmps7
  go_wp2_with fail
  go_loopw [8] (fun vi W => ∃ j : Nat, j ≤ l.length ∧ vi = .int .i64 j ∧ Hid (FwP l j ∧ Below w.heap.size w W)) (fun vi _ => l.length - (intOf vi).toNat)
  case atStart => exact ⟨0, Nat.zero_le _, rfl, Lib.hid ⟨fwP_zero l, Below.refl _ _⟩⟩
  case round =>
    obtain ⟨j, hj, rfl, hJ⟩ := hrel
    by_cases hlt : j < l.length
    · obtain ⟨b1, o1, x, L, W2, rfl, hxg, hC⟩ := c47_of HL.out.1 HL.out.2 hJ.out.2 hlt
      have HR := Lib.hid hC
      have HJ := Lib.hid (And.intro hJ.out.1 (And.intro (below_tr hJ.out.2 hC.b) hxg))
      clear hC hJ hxg
      go_wp2_with (first | ((with_reducible refine at_load_ ?_); refine wpl_loadat4 HR.out.r rfl 57 (.tmp 11) rfl rfl _ HU.out rfl (by simpa using info47 HR.out.is) ?_; rw [HR.out.l]) | ((with_reducible refine at_alloc_ ?_); refine wpl_allocg rfl (run_alloc47 rfl _) ?_) | ((with_reducible refine at_store_ ?_); refine wpl_storeg HR.out.kz HR.out.zz rfl rfl 57 (.tmp 4) (.tmp 12) rfl rfl rfl (info47 HR.out.is) HR.out.is.2 ?_; rw [HR.out.w2]) | ((with_reducible refine at_load_ ?_); refine wpl_loadg HR.out.k rfl 57 (.tmp 4) rfl rfl _ HU.out rfl (info47 HR.out.is) ?_))
      have hfw := few_any x W2 HR.out.ok
      rw [← HR.out.e] at hfw
      refine hfw.mono ?_
      clear hfw
      rintro e W3 ⟨⟨bf, rfl⟩, b3⟩
      have hB3 := Lib.hid (below_tr HJ.out.2.1 b3)
      have hk3 := Lib.hid (HR.out.k.below' b3)
      have hok3 := Lib.hid (HR.out.ok.below b3)
      clear b3
      cases bf with
      | false =>
        go_wp2_with fail
        go_ret
        exact ⟨false, rfl, fun h => (by cases h), hB3.out⟩
      | true =>
        go_wp2_with (first | ((with_reducible refine at_load_ ?_); refine wpl_loadg hk3.out rfl 57 (.tmp 4) rfl rfl _ HU.out rfl (info47 HR.out.is) ?_))
        have hlr := lawright_any x W3 hok3.out
        rw [← HR.out.e] at hlr
        refine hlr.mono ?_
        clear hlr
        rintro e W4 ⟨rfl, b4⟩
        have hB4 := Lib.hid (below_tr hB3.out b4)
        have hk4 := Lib.hid (hk3.out.below' b4)
        clear b4
        cases hee : errO x == 0 with
        | false =>
          have hg : (errO x != 0) = true := by simp [bne, hee]
          go_wp2_with fail
          go_ret
          exact ⟨false, rfl, fun h => (by cases h), hB4.out⟩
        | true =>
          have hg : (errO x != 0) = false := by simp [bne, hee]
          have hz : errO x = 0 := by simpa using hee
          have HZ := Lib.hid hz
          clear hz
          obtain ⟨n0, hn0⟩ : ∃ n, n = wr.heap.size := ⟨_, rfl⟩
          have h1 : Hid (FwJ w n0 L W4) := Lib.hid ⟨hB4.out, by rw [hn0]; exact hk4.out⟩
          have HN0 := Lib.hid hn0
          clear hn0
          go_wp2_with fail
          clear hee hg
          go_loopw [5] (fun vk W => ∃ k : Nat, k ≤ j ∧ vk = .int .i64 k ∧ Hid (FwK l x k ∧ FwJ w n0 L W)) (fun vk _ => j - (intOf vk).toNat)
          case atStart => exact ⟨0, Nat.zero_le _, rfl, Lib.hid ⟨fun i hi => absurd hi (Nat.not_lt_zero _), h1.out⟩⟩
          case round =>
            clear h1
            obtain ⟨k, hkj, rfl, hK⟩ := hrel
            by_cases hlt2 : k < j
            · have hkl : k < l.length := by omega
              obtain ⟨b2, o2, y, L2, W5, hA2, hyg, hC2⟩ := c47_of HL.out.1 HL.out.2 hK.out.2.1 hkl
              injection hA2 with hA2
              injection hA2 with e1 e2
              subst e1
              subst e2
              have r0 : wr.cell? ⟨b1, o1 + k * 47, none⟩ = some (.int .i64 y.kind) := hC2.r 0 _ (by rw [hC2.e]; rfl)
              have r1 : wr.cell? ⟨b1, o1 + k * 47 + 1, none⟩ = some (.string y.name) := hC2.r 1 _ (by rw [hC2.e]; rfl)
              have c0 := hK.out.2.2.cell 0
              have c1 := hK.out.2.2.cell 1
              rw [show L[0]? = some (.int .i64 x.kind) by rw [HR.out.e]; rfl, HN0.out] at c0
              rw [show L[1]? = some (.string x.name) by rw [HR.out.e]; rfl, HN0.out] at c1
              have z1 := cell_regrown r0
              have z2 := cell_regrown r1
              have z3 := cell_regrown c0
              have z4 := cell_regrown c1
              have HK2 := Lib.hid (And.intro hK.out hyg)
              clear hC2 hK hyg r0 r1 c0 c1
              go_wp2_with fail
              have hcs : ((y.kind == x.kind) = true ∧ (y.name.toList == x.name.toList) = true) ∨ (¬ (y.kind = x.kind ∧ y.name = x.name) ∧ ((y.kind == x.kind) = false ∨ ((y.kind == x.kind) = true ∧ (y.name.toList == x.name.toList) = false))) := by
                by_cases h1 : y.kind = x.kind
                · by_cases h2 : y.name = x.name
                  · exact .inl ⟨by simp [h1], by rw [h2]; simp⟩
                  · exact .inr ⟨fun h => h2 h.2, .inr ⟨by simp [h1], tl_neS h2⟩⟩
                · exact .inr ⟨fun h => h1 h.1, .inl (by simpa using h1)⟩
              rcases hcs with ⟨g1, g2⟩ | ⟨hne, g⟩
              · refine wp_region_quiet_below (by kernel_rfl) (by kernel_rfl) ?_
                repeat (go_big_quiet_step (fail))
                refine wpQuiet_nil ?_
                rintro _ ⟨rp, rfl⟩
                have hBz := below_regrown wr rp.d rp.os
                generalize «Sort».grow (redrawn wr rp.d) rp.os = W6 at hBz ⊢
                have hBz := Lib.hid hBz
                clear z1 z2 z3 z4
                go_wp2_with fail
                go_ret
                exact ⟨false, rfl, fun h => (by cases h), below_tr HK2.out.1.2.1 hBz.out⟩
              · have hF := fwK_next HK2.out.1.1 HK2.out.2 hne
                rcases g with g1 | ⟨g1, g2⟩
                · refine wp_region_quiet_below (by kernel_rfl) (by kernel_rfl) ?_
                  repeat (go_big_quiet_step (fail))
                  refine wpQuiet_nil ?_
                  rintro _ ⟨rp, rfl⟩
                  have hBz := below_regrown wr rp.d rp.os
                  generalize «Sort».grow (redrawn wr rp.d) rp.os = W6 at hBz ⊢
                  clear z1 z2 z3 z4
                  have HE : Hid (FwK l x (k + 1) ∧ FwJ w n0 L W6) := Lib.hid ⟨hF, below_tr HK2.out.1.2.1 hBz, HK2.out.1.2.2.below' hBz⟩
                  clear hBz
                  go_wp2_with fail
                  exact ⟨⟨k + 1, by omega, by go_num, HE⟩, by simp [intOf]; omega⟩
                · refine wp_region_quiet_below (by kernel_rfl) (by kernel_rfl) ?_
                  repeat (go_big_quiet_step (fail))
                  refine wpQuiet_nil ?_
                  rintro _ ⟨rp, rfl⟩
                  have hBz := below_regrown wr rp.d rp.os
                  generalize «Sort».grow (redrawn wr rp.d) rp.os = W6 at hBz ⊢
                  clear z1 z2 z3 z4
                  have HE : Hid (FwK l x (k + 1) ∧ FwJ w n0 L W6) := Lib.hid ⟨hF, below_tr HK2.out.1.2.1 hBz, HK2.out.1.2.2.below' hBz⟩
                  clear hBz
                  go_wp2_with fail
                  exact ⟨⟨k + 1, by omega, by go_num, HE⟩, by simp [intOf]; omega⟩
            · have hkj2 : k = j := by omega
              subst hkj2
              have HE : Hid (FwP l (k + 1) ∧ Below w.heap.size w wr) := Lib.hid ⟨fwP_next HJ.out.1 HJ.out.2.2 HZ.out hK.out.1, hK.out.2.1⟩
              clear hK
              go_wp2_with fail
              exact ⟨⟨k + 1, by omega, by go_num, HE⟩, by simp [intOf]; omega⟩
    · have hjl : j = l.length := by omega
      subst hjl
      have HE : Hid ((kys l).Nodup ∧ (∀ x ∈ l, errO x = 0) ∧ Below w.heap.size w wr) := by
        have h := hJ.out.1
        unfold FwP at h
        rw [List.take_length] at h
        exact Lib.hid ⟨h.1, h.2, hJ.out.2⟩
      clear hJ
      go_wp2_with fail
      go_ret
      exact ⟨_, rfl, fun h => ⟨by have := of_decide_eq_true h; omega, HE.out.1, HE.out.2.1⟩, HE.out.2.2⟩
end Go.Proofs.Ytkpklnalfomcbaa
end
section
namespace Go.Proofs.Ytkpklnalfomcbaa
open Go.RowKit Go.Proofs.Mem
set_option linter.unusedVariables false
set_option linter.unusedSimpArgs false
theorem nanI_any (a : Int) (w : World) : Calls Try.prog 49 #[.int .i64 a] w fun e w' => e = .returned (.bool false) ∧ w' = w := by
  go_enter Try.func49, Try.ntmps49
  go_wp2_with fail
  go_ret
  exact ⟨rfl, rfl⟩
theorem nanS_any (a : ByteArray) (w : World) : Calls Try.prog 50 #[.string a] w fun e w' => e = .returned (.bool false) ∧ w' = w := by
  go_enter Try.func50, Try.ntmps50
  go_wp2_with fail
  go_ret
  exact ⟨rfl, rfl⟩
def cmpS (a b : ByteArray) : Int := if Op.bytesLess a.toList b.toList = true then -1 else if (a.toList == b.toList) = true then 0 else 1
def cmpI (a b : Int) : Int := if a < b then -1 else if b < a then 1 else 0
theorem cmpS_any (a b : ByteArray) (w : World) : Calls Try.prog 30 #[.string a, .string b] w fun e w' => e = .returned (.int .i64 (cmpS a b)) ∧ w' = w := by
  have HC : Hid (cmpS a b = if Op.bytesLess a.toList b.toList = true then -1 else if (a.toList == b.toList) = true then 0 else 1) := Lib.hid rfl
  cases h1 : Op.bytesLess a.toList b.toList with
  | true =>
    go_enter Try.func30, Try.ntmps30
    go_wp2_with (first | (go_at_call 50; refine (nanS_any _ _).mono ?_; rintro e w' ⟨rfl, rfl⟩))
    go_ret
    exact ⟨by rw [HC.out, if_pos h1]; rfl, rfl⟩
  | false =>
    cases h2 : (a.toList == b.toList) with
    | true =>
      go_enter Try.func30, Try.ntmps30
      go_wp2_with (first | (go_at_call 50; refine (nanS_any _ _).mono ?_; rintro e w' ⟨rfl, rfl⟩))
      go_ret
      exact ⟨by rw [HC.out, if_neg (by rw [h1]; simp), if_pos h2]; rfl, rfl⟩
    | false =>
      go_enter Try.func30, Try.ntmps30
      go_wp2_with (first | (go_at_call 50; refine (nanS_any _ _).mono ?_; rintro e w' ⟨rfl, rfl⟩))
      go_ret
      exact ⟨by rw [HC.out, if_neg (by rw [h1]; simp), if_neg (by rw [h2]; simp)]; rfl, rfl⟩
theorem cmpI_any (a b : Int) (w : World) : Calls Try.prog 29 #[.int .i64 a, .int .i64 b] w fun e w' => e = .returned (.int .i64 (cmpI a b)) ∧ w' = w := by
  have HC : Hid (cmpI a b = if a < b then -1 else if b < a then 1 else 0) := Lib.hid rfl
  by_cases h1 : a < b
  · go_enter Try.func29, Try.ntmps29
    go_wp2_with (first | (go_at_call 49; refine (nanI_any _ _).mono ?_; rintro e w' ⟨rfl, rfl⟩))
    go_ret
    exact ⟨by rw [HC.out, if_pos h1]; rfl, rfl⟩
  · by_cases h2 : b < a
    · go_enter Try.func29, Try.ntmps29
      go_wp2_with (first | (go_at_call 49; refine (nanI_any _ _).mono ?_; rintro e w' ⟨rfl, rfl⟩))
      go_ret
      exact ⟨by rw [HC.out, if_neg (by omega), if_pos h2]; rfl, rfl⟩
    · go_enter Try.func29, Try.ntmps29
      go_wp2_with (first | (go_at_call 49; refine (nanI_any _ _).mono ?_; rintro e w' ⟨rfl, rfl⟩))
      go_ret
      exact ⟨by rw [HC.out, if_neg (by omega), if_neg (by omega)]; rfl, rfl⟩
def orI (a b : Int) : Int := if a == 0 then (if b == 0 then 0 else b) else a
theorem or_any (a b : Int) (blk : Nat) (w : World) (h0 : w.cell? ⟨blk, 0, none⟩ = some (.int .i64 a)) (h1 : w.cell? ⟨blk, 1, none⟩ = some (.int .i64 b)) : Calls Try.prog 28 #[.slice (some ⟨blk, 0, none⟩) 2 2] w fun e w' => e = .returned (.int .i64 (orI a b)) ∧ w' = w := by
  have HC : Hid (orI a b = if a == 0 then (if b == 0 then 0 else b) else a) := Lib.hid rfl
  cases ha : a == 0 with
  | false =>
    have ha2 : (a != 0) = true := by rw [bne, ha]; rfl
    go_enter Try.func28, Try.ntmps28
    go_wp2_with fail
    refine wp_loop_rounds 1 ?_
    rw [rounds_succ]
    go_wp2_with fail
    go_ret
    exact ⟨by rw [HC.out, ha]; rfl, rfl⟩
  | true =>
    have ha2 : (a != 0) = false := by rw [bne, ha]; rfl
    cases hb : b == 0 with
    | false =>
      have hb2 : (b != 0) = true := by rw [bne, hb]; rfl
      go_enter Try.func28, Try.ntmps28
      go_wp2_with fail
      refine wp_loop_rounds 2 ?_
      rw [rounds_succ]
      go_wp2_with fail
      rw [rounds_succ]
      go_wp2_with fail
      go_ret
      exact ⟨by rw [HC.out, ha, hb]; rfl, rfl⟩
    | true =>
      have hb2 : (b != 0) = false := by rw [bne, hb]; rfl
      go_enter Try.func28, Try.ntmps28
      go_wp2_with fail
      refine wp_loop_rounds 3 ?_
      rw [rounds_succ]
      go_wp2_with fail
      rw [rounds_succ]
      go_wp2_with fail
      rw [rounds_succ]
      go_wp2_with fail
      go_ret
      exact ⟨by rw [HC.out, ha, hb]; rfl, rfl⟩
abbrev Chc := ByteArray × Int
def encC (x : Chc) : List Value := [.string x.1, .int .i64 x.2]
def cfC (x y : Chc) : Int := orI (cmpI x.2 y.2) (cmpS x.1 y.1)
set_option maxHeartbeats 2000000 in
set_option maxRecDepth 100000 in
theorem pick1_any (x y : Chc) (w : World) : Calls Try.prog 27 #[.agg #[.string x.1, .int .i64 x.2], .agg #[.string y.1, .int .i64 y.2]] w fun e w' => e = .returned (.int .i64 (cfC x y)) ∧ ∃ q os', w' = «Sort».grow (w.drewN q) os' := by
  obtain ⟨xs, xn⟩ := x
  obtain ⟨ys, yn⟩ := y
  obtain ⟨z, hz⟩ : ∃ z, z = cfC (xs, xn) (ys, yn) := ⟨_, rfl⟩
  have HZ := Lib.hid hz
  rw [← hz]
  clear hz
  go_enter Try.func27, Try.ntmps27
  go_wp2_with fail
  refine wp_region_reads3 10 2 (fun i => !(i == 1 || i == 3 || i == 4 || i == 6 || i == 8 || i == 9)) (fun w' => w'.cell? ⟨w.heap.size, 0, none⟩ = some (.string xs) ∧ w'.cell? ⟨w.heap.size, 1, none⟩ = some (.int .i64 xn) ∧ w'.cell? ⟨w.heap.size + 1, 0, none⟩ = some (.string ys) ∧ w'.cell? ⟨w.heap.size + 1, 1, none⟩ = some (.int .i64 yn)) (by kernel_rfl) (by kernel_rfl) (fun c a d v w h => by cases d <;> exact h) ?cls ?_
  case cls =>
    have k1 := (Bk.new w 83 #[.string xs, .int .i64 xn]).alloc (.cells #[.string ys, .int .i64 yn] 83)
    have k2 := Bk.new (w.alloc (.cells #[.string xs, .int .i64 xn] 83)) 83 #[.string ys, .int .i64 yn]
    rw [World.size_alloc] at k2
    exact ⟨k1.cell 0, k1.cell 1, k2.cell 0, k2.cell 1⟩
  simp only [List.take_succ_cons, List.take_zero, List.drop_succ_cons, List.drop_zero]
  refine reads3_free (v := ?_) (by rfl) (fun w' => ?_) ?_
  rotate_left
  · go_simp
    with_reducible rfl
  simp only [Act.put, List.setIfInBounds_toArray, List.set_cons_zero, List.set_cons_succ]
  refine reads3_step (v := ?_) (by rfl) (by rfl) (fun w' hS => ?_) ?_
  rotate_left
  · have u1 := hS.1
    have u2 := hS.2.1
    have u3 := hS.2.2.1
    have u4 := hS.2.2.2
    clear hS
    go_simp
    with_reducible rfl
  simp only [Act.put, List.setIfInBounds_toArray, List.set_cons_zero, List.set_cons_succ]
  refine reads3_free (v := ?_) (by rfl) (fun w' => ?_) ?_
  rotate_left
  · go_simp
    with_reducible rfl
  simp only [Act.put, List.setIfInBounds_toArray, List.set_cons_zero, List.set_cons_succ]
  refine reads3_step (v := ?_) (by rfl) (by rfl) (fun w' hS => ?_) ?_
  rotate_left
  · have u1 := hS.1
    have u2 := hS.2.1
    have u3 := hS.2.2.1
    have u4 := hS.2.2.2
    clear hS
    go_simp
    with_reducible rfl
  simp only [Act.put, List.setIfInBounds_toArray, List.set_cons_zero, List.set_cons_succ]
  refine reads3_call (v := .int .i64 (cmpI xn yn)) _ #[.int .i64 xn, .int .i64 yn] (by rfl) (by rfl) (fun w' _ => ?_) (fun w' _ => cmpI_any xn yn w') ?_
  · go_simp
    try rfl
  simp only [Act.put, List.setIfInBounds_toArray, List.set_cons_zero, List.set_cons_succ]
  refine reads3_free (v := ?_) (by rfl) (fun w' => ?_) ?_
  rotate_left
  · go_simp
    with_reducible rfl
  simp only [Act.put, List.setIfInBounds_toArray, List.set_cons_zero, List.set_cons_succ]
  refine reads3_step (v := ?_) (by rfl) (by rfl) (fun w' hS => ?_) ?_
  rotate_left
  · have u1 := hS.1
    have u2 := hS.2.1
    have u3 := hS.2.2.1
    have u4 := hS.2.2.2
    clear hS
    go_simp
    with_reducible rfl
  simp only [Act.put, List.setIfInBounds_toArray, List.set_cons_zero, List.set_cons_succ]
  refine reads3_free (v := ?_) (by rfl) (fun w' => ?_) ?_
  rotate_left
  · go_simp
    with_reducible rfl
  simp only [Act.put, List.setIfInBounds_toArray, List.set_cons_zero, List.set_cons_succ]
  refine reads3_step (v := ?_) (by rfl) (by rfl) (fun w' hS => ?_) ?_
  rotate_left
  · have u1 := hS.1
    have u2 := hS.2.1
    have u3 := hS.2.2.1
    have u4 := hS.2.2.2
    clear hS
    go_simp
    with_reducible rfl
  simp only [Act.put, List.setIfInBounds_toArray, List.set_cons_zero, List.set_cons_succ]
  refine reads3_call (v := .int .i64 (cmpS xs ys)) _ #[.string xs, .string ys] (by rfl) (by rfl) (fun w' _ => ?_) (fun w' _ => cmpS_any xs ys w') ?_
  · go_simp
    try rfl
  simp only [Act.put, List.setIfInBounds_toArray, List.set_cons_zero, List.set_cons_succ]
  refine reads3_nil ?_
  refine early_step rfl (by rfl) ?_
  unfold Oper.wp
  go_simp
  have k1 := ((Bk.new w 83 #[.string xs, .int .i64 xn]).alloc (.cells #[.string ys, .int .i64 yn] 83)).alloc (.cells #[.int .i64 (cmpI xn yn), .int .i64 (cmpS xs ys)] 3)
  have k2 := (Bk.new (w.alloc (.cells #[.string xs, .int .i64 xn] 83)) 83 #[.string ys, .int .i64 yn]).alloc (.cells #[.int .i64 (cmpI xn yn), .int .i64 (cmpS xs ys)] 3)
  have k3 := Bk.new ((w.alloc (.cells #[.string xs, .int .i64 xn] 83)).alloc (.cells #[.string ys, .int .i64 yn] 83)) 3 #[.int .i64 (cmpI xn yn), .int .i64 (cmpS xs ys)]
  rw [World.size_alloc] at k2
  rw [World.size_alloc, World.size_alloc] at k3
  have CO := or_any (cmpI xn yn) (cmpS xs ys) (w.heap.size + 1 + 1) _ (k3.drew.cell 0) (k3.drew.cell 1)
  refine early_callT (R := fun w' => w' = ((((w.alloc (.cells #[.string xs, .int .i64 xn] 83)).alloc (.cells #[.string ys, .int .i64 yn] 83)).alloc (.cells #[.int .i64 (cmpI xn yn), .int .i64 (cmpS xs ys)] 3)).drew)) (.int .i64 (orI (cmpI xn yn) (cmpS xs ys))) 16 _ #[.slice (some ⟨w.heap.size + 1 + 1, 0, none⟩) 2 2] rfl rfl (by rfl) (by go_simp) CO ?_
  rintro w' rfl
  refine ⟨⟨k1.cell 0, k1.cell 1, k2.cell 0, k2.cell 1⟩, ?_⟩
  simp only [wpEarly]
  clear k1 k2 k3 CO
  go_wp2_with fail
  go_ret
  exact ⟨by rw [HZ.out]; rfl, 1, _, by rw [«Sort».alloc_eq_grow, «Sort».alloc_eq_grow, «Sort».alloc_eq_grow, «Sort».grow_grow, «Sort».grow_grow, «Sort».drew_grow]; rfl⟩
end Go.Proofs.Ytkpklnalfomcbaa
end
section
namespace Go.Proofs.Ytkpklnalfomcbaa
set_option linter.unusedVariables false
theorem sym_core {α : Type} {le : α → α → Prop} (ht : ∀ {x y z}, le x y → le y z → le x z) (f : Nat → α) {a m b mid n s r st en : Nat}
    (ham : a < m) (hmb : m < b) (hmid : mid = (a + b) / 2) (hn : n = mid + m) (hsr : (mid < m ∧ s = n - b ∧ r = mid) ∨ (m ≤ mid ∧ s = a ∧ r = m))
    (h1 : ∀ i j, a ≤ i → i ≤ j → j < m → le (f i) (f j)) (h2 : ∀ i j, m ≤ i → i ≤ j → j < b → le (f i) (f j))
    (hs : s ≤ st) (hr : st ≤ r) (hlo : ∀ c, s ≤ c → c < st → le (f c) (f (n - 1 - c))) (hhi : ∀ c, st ≤ c → c < r → le (f (n - 1 - c)) (f c)) (hen : en = n - st) :
    (a ≤ st ∧ st ≤ m ∧ m ≤ en ∧ en ≤ b ∧ st + (en - m) = mid) ∧
      ∀ i j, ((a ≤ i ∧ i < st) ∨ (m ≤ i ∧ i < en)) → ((st ≤ j ∧ j < m) ∨ (en ≤ j ∧ j < b)) → le (f i) (f j) := by
  have hb : a ≤ st ∧ st ≤ m ∧ m ≤ en ∧ en ≤ b ∧ st + (en - m) = mid := by omega
  refine ⟨hb, fun i j hi hj => ?_⟩
  obtain ⟨b1, b2, b3, b4, b5⟩ := hb
  rcases hi with ⟨hi1, hi2⟩ | ⟨hi1, hi2⟩
  · rcases hj with ⟨hj1, hj2⟩ | ⟨hj1, hj2⟩
    · exact h1 i j hi1 (by omega) hj2
    · by_cases hst : s < st
      · have e := hlo (st - 1) (by omega) (by omega)
        have e2 : n - 1 - (st - 1) = en := by omega
        rw [e2] at e
        exact ht (ht (h1 i (st - 1) hi1 (by omega) (by omega)) e) (h2 en j b3 hj1 hj2)
      · exfalso
        omega
  · rcases hj with ⟨hj1, hj2⟩ | ⟨hj1, hj2⟩
    · by_cases hst : st < r
      · have e := hhi st (Nat.le_refl _) hst
        have e2 : n - 1 - st = en - 1 := by omega
        rw [e2] at e
        exact ht (ht (h2 i (en - 1) hi1 (by omega) (by omega)) e) (h1 st j b1 hj1 hj2)
      · exfalso
        omega
    · exact h2 i j hi1 (by omega) hj2
section
variable {α : Type} {le : α → α → Prop}
end
end Go.Proofs.Ytkpklnalfomcbaa
end
section
namespace Go.Proofs.Ytkpklnalfomcbaa
open Go.RowKit Go.Proofs.Mem Go.Shelf Go.Sort Go.Lib
set_option linter.unusedVariables false
set_option linter.unusedSimpArgs false
def ltC (x y : Chc) : Bool := decide (x.2 < y.2) || (decide (x.2 = y.2) && Op.bytesLess x.1.toList y.1.toList)
theorem ltOf_cf : ltOf cfC = ltC := by
  funext x y
  unfold ltOf ltC cfC orI cmpI cmpS
  by_cases h1 : x.2 < y.2
  · simp [h1]
  · by_cases h2 : y.2 < x.2
    · have h3 : ¬ x.2 = y.2 := by omega
      simp [h1, h2, h3]
    · have h3 : x.2 = y.2 := by omega
      cases h4 : Op.bytesLess x.1.toList y.1.toList <;> cases h5 : (x.1.toList == y.1.toList) <;> simp [h3, h4, h5]
theorem swoC : «Sort».SWO ltC := by
  refine ⟨fun x => ?_, fun x y z h1 h2 => ?_, fun x y z h1 h2 => ?_⟩
  · unfold ltC
    rw [bytesLess_eq]
    simp
  · unfold ltC at *
    rw [bytesLess_eq] at h1 h2 ⊢
    simp only [Bool.or_eq_true, Bool.and_eq_true, decide_eq_true_eq] at *
    rcases h1 with h1 | ⟨h1, h1'⟩
    · rcases h2 with h2 | ⟨h2, h2'⟩
      · exact .inl (by omega)
      · exact .inl (by omega)
    · rcases h2 with h2 | ⟨h2, h2'⟩
      · exact .inl (by omega)
      · exact .inr ⟨by omega, List.lt_trans h1' h2'⟩
  · unfold ltC at *
    rw [bytesLess_eq] at h1 h2 ⊢
    simp only [Bool.or_eq_false_iff, Bool.and_eq_false_iff, decide_eq_false_iff_not] at *
    obtain ⟨a1, a2⟩ := h1
    obtain ⟨b1, b2⟩ := h2
    refine ⟨by omega, ?_⟩
    by_cases e : x.2 = z.2
    · right
      have e1 : x.2 = y.2 := by omega
      have e2 : y.2 = z.2 := by omega
      have a3 := a2.resolve_left (fun h => h e1)
      have b3 := b2.resolve_left (fun h => h e2)
      exact List.not_lt.2 (List.le_trans (List.not_lt.1 b3) (List.not_lt.1 a3))
    · exact .inl e
theorem encC_len (x : Chc) : (encC x).length = 2 := rfl
theorem encC_one (x : Chc) : ∀ v ∈ encC x, v.oneCell' = true := fun v hv => by
  unfold encC at hv
  simp only [List.mem_cons, List.not_mem_nil, or_false] at hv
  rcases hv with rfl | rfl <;> rfl
abbrev SW (w : World) (blk off m : Nat) (dk : Array Chc) (os : Array Obj) : World := sortWorldK encC 2 w blk off m dk os
theorem cmpLaysC (blk off size : Nat) (w : World) : CmpLays Try.prog 27 #[] encC 2 cfC blk off size w := fun m os dk _ x y => pick1_any x y _
set_option maxHeartbeats 1000000 in
set_option maxRecDepth 100000 in
theorem ins_any (blk off cap a b : Nat) (d : Array Chc) (w : World) (hH : HoldsK encC 2 w blk off d) (hblk : blk < w.heap.size) (hab : a ≤ b) (hb : b ≤ d.size) (hsz : d.size < 4611686018427387904) :
    Calls Try.prog 60 #[.slice (some ⟨blk, off, none⟩) d.size cap, .int .i64 a, .int .i64 b, .func (.func 27) #[] #[]] w fun e w' => e = .returned (.tuple #[]) ∧ ∃ n os d', w' = SW w blk off n d' os ∧ «Sort».PermIn a b d d' ∧ «Sort».SortedIn ltC a b d' := by
  have h := AnyQ.insertionSortCmpFunc (ρ := Try.inscL_ren) Try.inscL 2 (by intro w; kernel_rfl) (by intro w; kernel_rfl) encC encC_len encC_one cfC 27 #[] blk off cap a b d w (enters_of Try.func27 (by kernel_rfl) rfl) (cmpLaysC blk off d.size w) hH hblk hab hb hsz
  rw [ltOf_cf] at h
  have hI := «Sort».insertionSort_holds (lt := ltC) swoC d a b hab hb
  exact h.mono fun e w' ⟨he, n, os, hw⟩ => ⟨he, n, os, _, hw, hI.1, hI.2⟩
theorem hold2 {W : World} {blk off : Nat} {d : Array Chc} (h : HoldsK encC 2 W blk off d) {i : Nat} (hi : i < d.size) : W.cell? ⟨blk, off + i * 2, none⟩ = some (.string d[i]!.1) ∧ W.cell? ⟨blk, off + i * 2 + 1, none⟩ = some (.int .i64 d[i]!.2) ∧ W.frozen? ⟨blk, off + i * 2, none⟩ = false ∧ W.frozen? ⟨blk, off + i * 2 + 1, none⟩ = false := by
  have h0 := HoldsK.cells h encC_len hi 0 (.string d[i]!.1) rfl
  have h1 := HoldsK.cells h encC_len hi 1 (.int .i64 d[i]!.2) rfl
  rw [Addr.add_lit] at h0 h1
  have f0 := (h (i * 2) (by rw [size_flatK]; omega)).2
  have f1 := (h (i * 2 + 1) (by rw [size_flatK]; omega)).2
  exact ⟨h0, h1, f0, f1⟩
def swR (d : Array Chc) (a b : Nat) : Nat → Array Chc
  | 0 => d
  | n + 1 => «Sort».swp (swR d a b n) (a + n) (b + n)
theorem size_swR (d : Array Chc) (a b : Nat) : ∀ n, (swR d a b n).size = d.size
  | 0 => rfl
  | n + 1 => by
    unfold swR
    rw [«Sort».size_swp, size_swR d a b n]
set_option maxHeartbeats 4000000 in
set_option maxRecDepth 100000 in
theorem swapR_any (blk off cap a b n : Nat) (d : Array Chc) (cv : Value) (w : World) (hH : HoldsK encC 2 w blk off d) (hblk : blk < w.heap.size) (han : a + n ≤ b) (hbn : b + n ≤ d.size) (hsz : d.size < 4611686018427387904) :
    Calls Try.prog 77 #[.slice (some ⟨blk, off, none⟩) d.size cap, .int .i64 a, .int .i64 b, .int .i64 n, cv] w fun e w' => e = .returned (.tuple #[]) ∧ ∃ m os, w' = SW w blk off m (swR d a b n) os := by
  have HST : Hid (w = SW w blk off 0 d #[]) := Lib.hid (by show w = _; unfold SW sortWorldK; rw [«Sort».grow_empty]; exact (putRowK_self encC 2 w blk off d hH).symm)
  have HH : Hid (HoldsK encC 2 w blk off d) := Lib.hid hH
  have mixed : Try.prog.follows .mixedOrders = true := by kernel_rfl
  clear hH
  go_enter Try.func77, Try.ntmps77
  go_wp2_with fail
  go_loopw [10] (fun vi W => ∃ (i m : Nat) (os : Array Obj), vi = .int .i64 i ∧ i ≤ n ∧ Hid (W = SW w blk off m (swR d a b i) os)) (fun vi _ => n - (intOf vi).toNat)
  case atStart => exact ⟨0, 0, #[], rfl, Nat.zero_le _, HST⟩
  case round =>
    obtain ⟨i, m, os, rfl, hin, hW⟩ := hrel
    by_cases hlt : i < n
    · obtain ⟨dk, hdk⟩ : ∃ dk, dk = swR d a b i := ⟨_, rfl⟩
      have hsk : dk.size = d.size := by rw [hdk, size_swR]
      rw [← hdk] at hW
      have hHd : HoldsK encC 2 wr.drew blk off dk := by
        rw [hW.out]
        exact holdsK_sortWorldK_c encC 2 w blk off d dk _ _ HH.out hblk hsk
      obtain ⟨xA, hxA⟩ : ∃ x, dk[a + i]! = x := ⟨_, rfl⟩
      obtain ⟨xB, hxB⟩ : ∃ x, dk[b + i]! = x := ⟨_, rfl⟩
      obtain ⟨a0, a1, a2, a3⟩ := hold2 (i := a + i) hHd (by omega)
      obtain ⟨b0, b1, b2, b3⟩ := hold2 (i := b + i) hHd (by omega)
      rw [hxA] at a0 a1
      rw [hxB] at b0 b1
      have CX : Hid (dk[a + i]! = xA ∧ dk[b + i]! = xB ∧ dk = swR d a b i ∧ dk.size = d.size) := Lib.hid ⟨hxA, hxB, hdk, hsk⟩
      have hai : ((a : Int) + i).toNat = a + i := by omega
      have hbi : ((b : Int) + i).toNat = b + i := by omega
      have hai2 : (a : Int) + i < d.size := by omega
      have hbi2 : (b : Int) + i < d.size := by omega
      obtain ⟨pA, hpA⟩ : ∃ p, off + (a + i) * 2 = p := ⟨_, rfl⟩
      obtain ⟨pB, hpB⟩ : ∃ p, off + (b + i) * 2 = p := ⟨_, rfl⟩
      have n1 : ¬ pB = pA := by omega
      have n2 : ¬ pB = pA + 1 := by omega
      have n3 : ¬ pB + 1 = pA := by omega
      rw [hpA] at a0 a1 a2 a3
      rw [hpB] at b0 b1 b2 b3
      change wr.cell? _ = _ at a0 a1 b0 b1
      change wr.frozen? _ = _ at a2 a3 b2 b3
      clear hHd hxA hxB hdk hsk
      go_wp2_with fail
      go_big_region_o
      all_goals go_wp2_with fail
      refine ⟨⟨i + 1, m + 1, os, by go_num, by omega, Lib.hid ?_⟩, by simp [intOf]; omega⟩
      have h := sortWorldK_swp_c encC 2 w blk off encC_len m dk os hblk (a + i) (b + i) (by have := CX.out.2.2.2; omega) (by have := CX.out.2.2.2; omega)
      rw [CX.out.1, CX.out.2.1, hpA, hpB] at h
      rw [show swR d a b (i + 1) = swp dk (a + i) (b + i) by rw [CX.out.2.2.1]; rfl, ← hpA, ← hpB, hW.out]
      rw [hpA, hpB]
      exact h
    · have hil : i = n := by omega
      subst hil
      go_wp2_with fail
      go_end0
      exact ⟨rfl, m, os, hW.out⟩
end Go.Proofs.Ytkpklnalfomcbaa
end
section
namespace Go.Proofs.Ytkpklnalfomcbaa
open Go.Sort Go.Lib
set_option linter.unusedVariables false
set_option linter.unusedSimpArgs false
theorem swR_get (d : Array Chc) (a b : Nat) : ∀ n, a + n ≤ b → b + n ≤ d.size → ∀ p, (swR d a b n)[p]! = if a ≤ p ∧ p < a + n then d[p - a + b]! else if b ≤ p ∧ p < b + n then d[p - b + a]! else d[p]!
  | 0, _, _, p => by
    unfold swR
    rw [if_neg (by omega), if_neg (by omega)]
  | n + 1, h1, h2, p => by
    have ih := swR_get d a b n (by omega) (by omega)
    unfold swR
    rw [swp_get _ (by rw [size_swR]; omega) (by rw [size_swR]; omega), ih, ih, ih]
    repeat' split
    all_goals first | (exfalso; omega) | rfl | (congr 1; omega)
theorem swR_perm (d : Array Chc) {s e : Nat} (a b : Nat) : ∀ n, s ≤ a → a + n ≤ b → b + n ≤ e → e ≤ d.size → PermIn s e d (swR d a b n)
  | 0, _, _, _, _ => permIn_refl _ _ _
  | n + 1, h1, h2, h3, h4 => permIn_trans _ _ _ _ _ (swR_perm d a b n h1 (by omega) (by omega) h4) (swp_permIn _ _ _ _ _ (by omega) (by omega) (by omega) (by omega) (by rw [size_swR]; exact h4))
def IsRot (d d' : Array Chc) (s m e : Nat) : Prop := ∀ p, d'[p]! = if s ≤ p ∧ p < s + (e - m) then d[p - s + m]! else if s + (e - m) ≤ p ∧ p < e then d[p - (s + (e - m)) + s]! else d[p]!
def RotTo (cur : Array Chc) (T : Nat → Chc) (s m e : Nat) : Prop := ∀ p, T p = if s ≤ p ∧ p < s + (e - m) then cur[p - s + m]! else if s + (e - m) ≤ p ∧ p < e then cur[p - (s + (e - m)) + s]! else cur[p]!
theorem rot_gt {cur : Array Chc} {T : Nat → Chc} {m i j : Nat} (h : RotTo cur T (m - i) m (m + j)) (hi : j < i) (him : i ≤ m) (hs : m + j ≤ cur.size) : RotTo (swR cur (m - i) m j) T (m - (i - j)) m (m + j) := fun p => by
  have hg := swR_get cur (m - i) m j (by omega) (by omega)
  rw [h p, hg, hg, hg]
  by_cases e1 : m - i ≤ p ∧ p < m - i + (m + j - m)
  · rw [if_pos e1, if_neg (by omega), if_neg (by omega), if_pos (by omega)]
  · rw [if_neg e1]
    by_cases e2 : m - i + (m + j - m) ≤ p ∧ p < m + j
    · rw [if_pos e2]
      by_cases e3 : m - (i - j) ≤ p ∧ p < m - (i - j) + (m + j - m)
      · rw [if_pos e3, if_neg (by omega), if_pos (by omega)]
        congr 1
        omega
      · rw [if_neg e3, if_pos (by omega), if_neg (by omega), if_neg (by omega)]
        congr 1
        omega
    · rw [if_neg e2, if_neg (by omega), if_neg (by omega), if_neg (by omega), if_neg (by omega)]
theorem rot_lt {cur : Array Chc} {T : Nat → Chc} {m i j : Nat} (h : RotTo cur T (m - i) m (m + j)) (hi : i < j) (him : i ≤ m) (hs : m + j ≤ cur.size) : RotTo (swR cur (m - i) (m + j - i) i) T (m - i) m (m + (j - i)) := fun p => by
  have hg := swR_get cur (m - i) (m + j - i) i (by omega) (by omega)
  rw [h p, hg, hg, hg]
  by_cases e1 : m - i ≤ p ∧ p < m - i + (m + (j - i) - m)
  · rw [if_pos (by omega), if_pos e1, if_neg (by omega), if_neg (by omega)]
  · rw [if_neg e1]
    by_cases e2 : m - i + (m + (j - i) - m) ≤ p ∧ p < m + (j - i)
    · rw [if_pos (by omega), if_pos e2, if_pos (by omega)]
      congr 1
      omega
    · rw [if_neg e2]
      by_cases e3 : m - i + (m + j - m) ≤ p ∧ p < m + j
      · rw [if_neg (by omega), if_pos e3, if_neg (by omega), if_pos (by omega)]
        congr 1
        omega
      · rw [if_neg (by omega), if_neg e3, if_neg (by omega), if_neg (by omega)]
theorem rot_eq {cur : Array Chc} {T : Nat → Chc} {m i : Nat} (h : RotTo cur T (m - i) m (m + i)) (him : i ≤ m) (hs : m + i ≤ cur.size) (p : Nat) : T p = (swR cur (m - i) m i)[p]! := by
  rw [h p, swR_get cur (m - i) m i (by omega) (by omega)]
  by_cases e1 : m - i ≤ p ∧ p < m - i + i
  · rw [if_pos (by omega), if_pos e1]
  · rw [if_neg (by omega), if_neg e1]
    by_cases e2 : m ≤ p ∧ p < m + i
    · rw [if_pos (by omega), if_pos e2]
      congr 1
      omega
    · rw [if_neg (by omega), if_neg e2]
theorem rot_id {d : Array Chc} {s m e : Nat} (h1 : s ≤ m) (h2 : m ≤ e) (h : s = m ∨ m = e) : IsRot d d s m e := fun p => by
  rcases h with rfl | rfl
  · by_cases e1 : s ≤ p ∧ p < s + (e - s)
    · rw [if_pos e1]
      congr 1
      omega
    · rw [if_neg e1, if_neg (by omega)]
  · rw [if_neg (by omega)]
    by_cases e1 : s + (m - m) ≤ p ∧ p < m
    · rw [if_pos e1]
      congr 1
      omega
    · rw [if_neg e1]
def shU (d : Array Chc) (a : Nat) : Nat → Array Chc
  | 0 => d
  | n + 1 => swp (shU d a n) (a + n) (a + n + 1)
def shD (d : Array Chc) (m : Nat) : Nat → Array Chc
  | 0 => d
  | n + 1 => swp (shD d m n) (m - n) (m - n - 1)
theorem size_shU (d : Array Chc) (a : Nat) : ∀ n, (shU d a n).size = d.size
  | 0 => rfl
  | n + 1 => by unfold shU; rw [Sort.size_swp, size_shU d a n]
theorem size_shD (d : Array Chc) (m : Nat) : ∀ n, (shD d m n).size = d.size
  | 0 => rfl
  | n + 1 => by unfold shD; rw [Sort.size_swp, size_shD d m n]
theorem shU_get (d : Array Chc) (a : Nat) : ∀ n, a + n < d.size → ∀ p, (shU d a n)[p]! = if a ≤ p ∧ p < a + n then d[p + 1]! else if p = a + n then d[a]! else d[p]!
  | 0, _, p => by
    unfold shU
    rw [if_neg (by omega)]
    by_cases e : p = a + 0
    · rw [if_pos e, e]; rfl
    · rw [if_neg e]
  | n + 1, h, p => by
    have ih := shU_get d a n (by omega)
    unfold shU
    rw [swp_get _ (by rw [size_shU]; omega) (by rw [size_shU]; omega), ih, ih, ih]
    repeat' split
    all_goals first | (exfalso; omega) | rfl | (congr 1; omega)
theorem shD_get (d : Array Chc) (m : Nat) : ∀ n, n ≤ m → m < d.size → ∀ p, (shD d m n)[p]! = if m - n < p ∧ p ≤ m then d[p - 1]! else if p = m - n then d[m]! else d[p]!
  | 0, _, _, p => by
    unfold shD
    rw [if_neg (by omega)]
    by_cases e : p = m - 0
    · rw [if_pos e, e]; rfl
    · rw [if_neg e]
  | n + 1, h1, h2, p => by
    have ih := shD_get d m n (by omega) h2
    unfold shD
    rw [swp_get _ (by rw [size_shD]; omega) (by rw [size_shD]; omega), ih, ih, ih]
    repeat' split
    all_goals first | (exfalso; omega) | rfl | (congr 1; omega)
theorem shU_perm (d : Array Chc) {s e : Nat} (a : Nat) : ∀ n, s ≤ a → a + n < e → e ≤ d.size → PermIn s e d (shU d a n)
  | 0, _, _, _ => permIn_refl _ _ _
  | n + 1, h1, h2, h3 => permIn_trans _ _ _ _ _ (shU_perm d a n h1 (by omega) h3) (swp_permIn _ _ _ _ _ (by omega) (by omega) (by omega) (by omega) (by rw [size_shU]; exact h3))
theorem shD_perm (d : Array Chc) {s e : Nat} (m : Nat) : ∀ n, s + n ≤ m → m < e → e ≤ d.size → PermIn s e d (shD d m n)
  | 0, _, _, _ => permIn_refl _ _ _
  | n + 1, h1, h2, h3 => permIn_trans _ _ _ _ _ (shD_perm d m n (by omega) h2 h3) (swp_permIn _ _ _ _ _ (by omega) (by omega) (by omega) (by omega) (by rw [size_shD]; exact h3))
section
variable {d : Array Chc} {a m b i : Nat}
theorem ins_lo (hs : SortedIn ltC (a + 1) b d) (h1 : a + 1 ≤ i) (h2 : i ≤ b) (hb : b ≤ d.size) (hlo : ∀ q, a + 1 ≤ q → q < i → ltC d[q]! d[a]! = true) (hhi : ∀ q, i ≤ q → q < b → ltC d[q]! d[a]! = false) : SortedIn ltC a b (shU d a (i - 1 - a)) := fun p q hp hpq hq => by
  rw [shU_get d a _ (by omega), shU_get d a _ (by omega)]
  have hS := swoC
  by_cases e1 : a ≤ q ∧ q < a + (i - 1 - a)
  · rw [if_pos e1, if_pos (by omega)]
    exact hs _ _ (by omega) (by omega) (by omega)
  · rw [if_neg e1]
    by_cases e2 : q = a + (i - 1 - a)
    · rw [if_pos e2, if_pos (by omega)]
      have h := hlo (p + 1) (by omega) (by omega)
      cases hc : ltC d[a]! d[p + 1]! with
      | false => rfl
      | true => have := hS.trans _ _ _ h hc; rw [hS.irrefl] at this; cases this
    · rw [if_neg e2]
      by_cases e3 : a ≤ p ∧ p < a + (i - 1 - a)
      · rw [if_pos e3]
        exact hs _ _ (by omega) (by omega) (by omega)
      · rw [if_neg e3]
        by_cases e4 : p = a + (i - 1 - a)
        · rw [if_pos e4]
          exact hhi q (by omega) (by omega)
        · rw [if_neg e4]
          exact hs _ _ (by omega) (by omega) (by omega)
theorem ins_hi (hs : SortedIn ltC a m d) (h1 : a ≤ i) (h2 : i ≤ m) (hb : m < d.size) (hlo : ∀ q, a ≤ q → q < i → ltC d[m]! d[q]! = false) (hhi : ∀ q, i ≤ q → q < m → ltC d[m]! d[q]! = true) : SortedIn ltC a (m + 1) (shD d m (m - i)) := fun p q hp hpq hq => by
  rw [shD_get d m _ (by omega) hb, shD_get d m _ (by omega) hb]
  have hS := swoC
  by_cases e1 : m - (m - i) < q ∧ q ≤ m
  · rw [if_pos e1]
    by_cases e3 : m - (m - i) < p ∧ p ≤ m
    · rw [if_pos e3]
      exact hs _ _ (by omega) (by omega) (by omega)
    · rw [if_neg e3]
      by_cases e4 : p = m - (m - i)
      · rw [if_pos e4]
        have h := hhi (q - 1) (by omega) (by omega)
        cases hc : ltC d[q - 1]! d[m]! with
        | false => rfl
        | true => have := hS.trans _ _ _ h hc; rw [hS.irrefl] at this; cases this
      · rw [if_neg e4]
        exact hs _ _ (by omega) (by omega) (by omega)
  · rw [if_neg e1]
    by_cases e2 : q = m - (m - i)
    · rw [if_pos e2, if_neg (by omega), if_neg (by omega)]
      exact hlo p (by omega) (by omega)
    · rw [if_neg e2, if_neg (by omega), if_neg (by omega)]
      exact hs _ _ (by omega) (by omega) (by omega)
end
end Go.Proofs.Ytkpklnalfomcbaa
end
section
namespace Go.Proofs.Ytkpklnalfomcbaa
open Go.RowKit Go.Proofs.Mem Go.Shelf Go.Sort Go.Lib
set_option linter.unusedVariables false
set_option linter.unusedSimpArgs false
abbrev SWf (w0 : World) (blk off : Nat) (d : Array Chc) (W : World) : Prop := SWK encC 2 w0 blk off d W
structure Base (w0 : World) (blk off : Nat) (d0 : Array Chc) : Prop where
  H : HoldsK encC 2 w0 blk off d0
  b : blk < w0.heap.size
  z : d0.size < 4611686018427387904
section
variable {w0 W : World} {blk off cap a b n : Nat} {d0 d : Array Chc}
theorem swapR_on (hB : Base w0 blk off d0) (h : SWf w0 blk off d W) (hs : d.size = d0.size) (cv : Value) (han : a + n ≤ b) (hbn : b + n ≤ d0.size) :
    Calls Try.prog 77 #[.slice (some ⟨blk, off, none⟩) d0.size cap, .int .i64 a, .int .i64 b, .int .i64 n, cv] W fun e w' => e = .returned (.tuple #[]) ∧ SWf w0 blk off (swR d a b n) w' := by
  rw [← hs]
  refine (swapR_any blk off cap a b n d cv W (SWK.holds h hB.b hB.H hs) (SWK.lt h hB.b) han (by omega) (by have := hB.z; omega)).mono ?_
  rintro e w' ⟨rfl, m, os, rfl⟩
  exact ⟨rfl, SWK.on h hB.b m _ os (size_swR _ _ _ _)⟩
theorem ins_on (hB : Base w0 blk off d0) (h : SWf w0 blk off d W) (hs : d.size = d0.size) (hab : a ≤ b) (hb : b ≤ d0.size) :
    Calls Try.prog 60 #[.slice (some ⟨blk, off, none⟩) d0.size cap, .int .i64 a, .int .i64 b, .func (.func 27) #[] #[]] W fun e w' => e = .returned (.tuple #[]) ∧ ∃ d', SWf w0 blk off d' w' ∧ PermIn a b d d' ∧ SortedIn ltC a b d' := by
  rw [← hs]
  refine (ins_any blk off cap a b d W (SWK.holds h hB.b hB.H hs) (SWK.lt h hB.b) hab (by omega) (by have := hB.z; omega)).mono ?_
  rintro e w' ⟨rfl, m, os, d', rfl, hp, hS⟩
  exact ⟨rfl, d', SWK.on h hB.b m _ os hp.1, hp, hS⟩
end
set_option maxHeartbeats 4000000 in
set_option maxRecDepth 100000 in
theorem rotate_on {w0 W : World} {blk off cap a m b : Nat} {d0 d : Array Chc} (hB : Base w0 blk off d0) (h : SWf w0 blk off d W) (hs : d.size = d0.size) (cv : Value) (ham : a < m) (hmb : m < b) (hb : b ≤ d0.size) :
    Calls Try.prog 65 #[.slice (some ⟨blk, off, none⟩) d0.size cap, .int .i64 a, .int .i64 m, .int .i64 b, cv] W fun e w' => e = .returned (.tuple #[]) ∧ ∃ d', SWf w0 blk off d' w' ∧ IsRot d d' a m b ∧ PermIn a b d d' := by
  obtain ⟨T, hT⟩ : ∃ T : Nat → Chc, RotTo d T a m b := ⟨_, fun p => rfl⟩
  have HW := Lib.hid (And.intro h (And.intro hs (And.intro hT hB)))
  have hz := hB.z
  clear h hs hT hB
  go_enter Try.func65, Try.ntmps65
  go_wp2_with fail
  go_loopw [10, 11] (fun vi vj W' => ∃ (i j : Nat) (cur : Array Chc), vi = .int .i64 i ∧ vj = .int .i64 j ∧ 0 < i ∧ 0 < j ∧ i ≤ m ∧ a ≤ m - i ∧ m + j ≤ b ∧ Hid (SWf w0 blk off cur W' ∧ cur.size = d0.size ∧ RotTo cur T (m - i) m (m + j) ∧ PermIn a b d cur)) (fun vi vj _ => (intOf vi).toNat + (intOf vj).toNat)
  case atStart =>
    refine ⟨m - a, b - m, d, by go_num, by go_num, by omega, by omega, by omega, by omega, by omega, Lib.hid ⟨HW.out.1, HW.out.2.1, ?_, permIn_refl _ _ _⟩⟩
    rw [show m - (m - a) = a by omega, show m + (b - m) = b by omega]
    exact HW.out.2.2.1
  case round =>
    obtain ⟨i, j, cur, rfl, rfl, hi0, hj0, him, hai, hjb, hJ⟩ := hrel
    by_cases hij : i = j
    · subst hij
      have HC := Lib.hid (swapR_on (cap := cap) (a := m - i) (b := m) (n := i) HW.out.2.2.2 hJ.out.1 hJ.out.2.1 cv (by omega) (by omega))
      have hmi : ((m : Int) - i) = ((m - i : Nat) : Int) := by omega
      have hee : ((i : Int) != i) = false := by simp
      go_wp2_with fail
      refine HC.out.mono ?_
      rintro e w' ⟨rfl, hw'⟩
      have HE := Lib.hid hw'
      clear hw'
      go_wp2_with fail
      go_end0
      refine ⟨rfl, _, HE.out, fun p => ?_, ?_⟩
      · rw [← rot_eq hJ.out.2.2.1 him (by rw [hJ.out.2.1]; omega) p]
        exact HW.out.2.2.1 p
      · exact permIn_trans _ _ _ _ _ hJ.out.2.2.2 (swR_perm cur (m - i) m i (by omega) (by omega) (by omega) (by rw [hJ.out.2.1]; omega))
    · have hne : ((i : Int) != j) = true := by
        have : ¬ (i : Int) = j := by omega
        simpa [bne] using this
      by_cases hgt : j < i
      · have HC := Lib.hid (swapR_on (cap := cap) (a := m - i) (b := m) (n := j) HW.out.2.2.2 hJ.out.1 hJ.out.2.1 cv (by omega) (by omega))
        have hmi : ((m : Int) - i) = ((m - i : Nat) : Int) := by omega
        have hgz : (j : Int) < i := by omega
        go_wp2_with fail
        refine HC.out.mono ?_
        rintro e w' ⟨rfl, hw'⟩
        have HE : Hid (SWf w0 blk off (swR cur (m - i) m j) w' ∧ (swR cur (m - i) m j).size = d0.size ∧ RotTo (swR cur (m - i) m j) T (m - (i - j)) m (m + j) ∧ PermIn a b d (swR cur (m - i) m j)) := Lib.hid ⟨hw', by rw [size_swR]; exact hJ.out.2.1, rot_gt hJ.out.2.2.1 hgt him (by rw [hJ.out.2.1]; omega), permIn_trans _ _ _ _ _ hJ.out.2.2.2 (swR_perm cur (m - i) m j (by omega) (by omega) (by omega) (by rw [hJ.out.2.1]; omega))⟩
        clear hw'
        go_wp2_with fail
        exact ⟨⟨i - j, j, _, by go_num, rfl, by omega, hj0, by omega, by omega, by omega, HE⟩, by simp [intOf]; omega⟩
      · have HC := Lib.hid (swapR_on (cap := cap) (a := m - i) (b := m + j - i) (n := i) HW.out.2.2.2 hJ.out.1 hJ.out.2.1 cv (by omega) (by omega))
        have hmi : ((m : Int) - i) = ((m - i : Nat) : Int) := by omega
        have hmj : ((m : Int) + j - i) = ((m + j - i : Nat) : Int) := by omega
        have hgz : ¬ (j : Int) < i := by omega
        go_wp2_with fail
        refine HC.out.mono ?_
        rintro e w' ⟨rfl, hw'⟩
        have HE : Hid (SWf w0 blk off (swR cur (m - i) (m + j - i) i) w' ∧ (swR cur (m - i) (m + j - i) i).size = d0.size ∧ RotTo (swR cur (m - i) (m + j - i) i) T (m - i) m (m + (j - i)) ∧ PermIn a b d (swR cur (m - i) (m + j - i) i)) := Lib.hid ⟨hw', by rw [size_swR]; exact hJ.out.2.1, rot_lt hJ.out.2.2.1 (by omega) him (by rw [hJ.out.2.1]; omega), permIn_trans _ _ _ _ _ hJ.out.2.2.2 (swR_perm cur (m - i) (m + j - i) i (by omega) (by omega) (by omega) (by rw [hJ.out.2.1]; omega))⟩
        clear hw'
        go_wp2_with fail
        exact ⟨⟨i, j - i, _, rfl, by go_num, hi0, by omega, him, by omega, by omega, HE⟩, by simp [intOf]; omega⟩
end Go.Proofs.Ytkpklnalfomcbaa
end
section
namespace Go.Proofs.Ytkpklnalfomcbaa
open Go.Sort Go.Lib
set_option linter.unusedVariables false
set_option linter.unusedSimpArgs false
def leC (x y : Chc) : Prop := ltC y x = false
theorem leC_trans {x y z : Chc} (h1 : leC x y) (h2 : leC y z) : leC x z := swoC.ntrans _ _ _ h2 h1
theorem leC_refl (x : Chc) : leC x x := swoC.irrefl x
theorem leC_of_lt {x y : Chc} (h : ltC x y = true) : leC x y := by
  unfold leC
  cases hc : ltC y x with
  | false => rfl
  | true =>
    have := swoC.trans _ _ _ h hc
    rw [swoC.irrefl] at this
    cases this
theorem lt_le_trans {x y z : Chc} (h1 : leC x y) (h2 : ltC y z = true) : ltC x z = true := by
  cases hc : ltC x z with
  | true => rfl
  | false =>
    have := swoC.ntrans y x z h1 hc
    rw [this] at h2
    cases h2
theorem le_lt_trans {x y z : Chc} (h1 : ltC x y = true) (h2 : leC y z) : ltC x z = true := by
  cases hc : ltC x z with
  | true => rfl
  | false =>
    have := swoC.ntrans x z y hc h2
    rw [this] at h1
    cases h1
theorem sorted_le {a b : Nat} {d : Array Chc} (h : SortedIn ltC a b d) {i j : Nat} (h1 : a ≤ i) (h2 : i ≤ j) (h3 : j < b) : leC d[i]! d[j]! := by
  rcases Nat.lt_or_eq_of_le h2 with hlt | rfl
  · exact h i j h1 hlt h3
  · exact leC_refl _
section
variable {d d1 d2 d3 : Array Chc} {a m b mid n s r st en : Nat}
theorem sym_parts (ham : a < m) (hmb : m < b) (hmid : mid = (a + b) / 2) (hn : n = mid + m) (hsr : (mid < m ∧ s = n - b ∧ r = mid) ∨ (m ≤ mid ∧ s = a ∧ r = m))
    (h1 : SortedIn ltC a m d) (h2 : SortedIn ltC m b d) (hs : s ≤ st) (hr : st ≤ r) (hlo : ∀ c, s ≤ c → c < st → leC d[c]! d[n - 1 - c]!) (hhi : ∀ c, st ≤ c → c < r → leC d[n - 1 - c]! d[c]!) (hen : en = n - st) (hrot : IsRot d d1 st m en) :
    SortedIn ltC a st d1 ∧ SortedIn ltC st mid d1 ∧ SortedIn ltC mid en d1 ∧ SortedIn ltC en b d1 ∧ ∀ i j, a ≤ i → i < mid → mid ≤ j → j < b → leC d1[i]! d1[j]! := by
  obtain ⟨⟨b1, b2, b3, b4, b5⟩, hx⟩ := sym_core (le := leC) (fun h1 h2 => leC_trans h1 h2) (fun i => d[i]!) ham hmb hmid hn hsr (fun i j h3 h4 h5 => sorted_le h1 h3 h4 h5) (fun i j h3 h4 h5 => sorted_le h2 h3 h4 h5) hs hr hlo hhi hen
  have g1 : ∀ p, p < st → d1[p]! = d[p]! := fun p hp => by rw [hrot p, if_neg (by omega), if_neg (by omega)]
  have g2 : ∀ p, st ≤ p → p < mid → d1[p]! = d[p - st + m]! := fun p h3 h4 => by rw [hrot p, if_pos (by omega)]
  have g3 : ∀ p, mid ≤ p → p < en → d1[p]! = d[p - mid + st]! := fun p h3 h4 => by
    rw [hrot p, if_neg (by omega), if_pos (by omega)]
    congr 1
    omega
  have g4 : ∀ p, en ≤ p → p < b → d1[p]! = d[p]! := fun p h3 h4 => by rw [hrot p, if_neg (by omega), if_neg (by omega)]
  refine ⟨fun i j h3 h4 h5 => ?_, fun i j h3 h4 h5 => ?_, fun i j h3 h4 h5 => ?_, fun i j h3 h4 h5 => ?_, fun i j h3 h4 h5 h6 => ?_⟩
  · rw [g1 i (by omega), g1 j h5]
    exact h1 i j h3 h4 (by omega)
  · rw [g2 i h3 (by omega), g2 j (by omega) h5]
    exact h2 _ _ (by omega) (by omega) (by omega)
  · rw [g3 i h3 (by omega), g3 j (by omega) h5]
    exact h1 _ _ (by omega) (by omega) (by omega)
  · rw [g4 i h3 (by omega), g4 j (by omega) h5]
    exact h2 _ _ (by omega) h4 h5
  · have l : ∃ i', d1[i]! = d[i']! ∧ ((a ≤ i' ∧ i' < st) ∨ (m ≤ i' ∧ i' < en)) := by
      by_cases e : i < st
      · exact ⟨i, g1 i e, .inl ⟨h3, e⟩⟩
      · exact ⟨i - st + m, g2 i (by omega) h4, .inr ⟨by omega, by omega⟩⟩
    have l2 : ∃ j', d1[j]! = d[j']! ∧ ((st ≤ j' ∧ j' < m) ∨ (en ≤ j' ∧ j' < b)) := by
      by_cases e : j < en
      · exact ⟨j - mid + st, g3 j h5 e, .inl ⟨by omega, by omega⟩⟩
      · exact ⟨j, g4 j (by omega) h6, .inr ⟨by omega, h6⟩⟩
    obtain ⟨i', e1, hi⟩ := l
    obtain ⟨j', e2, hj⟩ := l2
    rw [e1, e2]
    exact hx i' j' hi hj
theorem sym_bounds (ham : a < m) (hmb : m < b) (hmid : mid = (a + b) / 2) (hn : n = mid + m) (hsr : (mid < m ∧ s = n - b ∧ r = mid) ∨ (m ≤ mid ∧ s = a ∧ r = m)) (hs : s ≤ st) (hr : st ≤ r) (hen : en = n - st) : a ≤ st ∧ st ≤ m ∧ m ≤ en ∧ en ≤ b ∧ st + (en - m) = mid ∧ a < mid ∧ mid < b ∧ st ≤ mid ∧ mid ≤ en ∧ a ≤ s := by omega
theorem sym_join (hb : b ≤ d1.size) (ham : a ≤ mid) (hmb : mid ≤ b) (hx : ∀ i j, a ≤ i → i < mid → mid ≤ j → j < b → leC d1[i]! d1[j]!) (p1 : PermIn a mid d1 d2) (s1 : SortedIn ltC a mid d2) (p2 : PermIn mid b d2 d3) (s2 : SortedIn ltC mid b d3) : PermIn a b d1 d3 ∧ SortedIn ltC a b d3 := by
  have z2 : d2.size = d1.size := p1.1
  refine ⟨permIn_trans _ _ _ _ _ (permIn_mono _ _ _ _ _ _ (Nat.le_refl _) hmb (by omega) p1) (permIn_mono _ _ _ _ _ _ ham (Nat.le_refl _) (by omega) p2), fun i j h1 h2 h3 => ?_⟩
  have e3 : ∀ i, i < mid → d3[i]! = d2[i]! := fun i hi => p2.2.1 i (.inl hi)
  by_cases hj : j < mid
  · rw [e3 i (by omega), e3 j hj]
    exact s1 i j h1 h2 hj
  · by_cases hi : mid ≤ i
    · exact s2 i j hi h2 h3
    · rw [e3 i (by omega)]
      have q1 : ∀ i, a ≤ i → i < mid → ∀ j, mid ≤ j → j < b → leC d2[i]! d1[j]! := permIn_all d1 d2 a mid (fun x => ∀ j, mid ≤ j → j < b → leC x d1[j]!) (by omega) p1 (fun i h4 h5 j h6 h7 => hx i j h4 h5 h6 h7)
      have q2 : ∀ j, mid ≤ j → j < b → ∀ i, a ≤ i → i < mid → leC d2[i]! d3[j]! := permIn_all d2 d3 mid b (fun y => ∀ i, a ≤ i → i < mid → leC d2[i]! y) (by omega) p2 (fun j h4 h5 i h6 h7 => by
        rw [p1.2.1 j (.inr h4)]
        exact q1 i h6 h7 j h4 h5)
      exact q2 j (by omega) h3 i h1 (by omega)
theorem sorted_keep (h : SortedIn ltC a b d) (p : PermIn s r d d1) (hd : r ≤ a ∨ b ≤ s) : SortedIn ltC a b d1 := fun i j h1 h2 h3 => by
  rw [p.2.1 i (by omega), p.2.1 j (by omega)]
  exact h i j h1 h2 h3
end
end Go.Proofs.Ytkpklnalfomcbaa
end
