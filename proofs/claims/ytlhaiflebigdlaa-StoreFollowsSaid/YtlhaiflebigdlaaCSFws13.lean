/-
  StoreFollows: the law's walk.; The walk of the statement StoreFollows, at its arguments as they are read.
-/
import Derived.Test.YtlhaiflebigdlaaCSFws12
import Derived.Test.YtlhaiflebigdlaaCSFws7
import Derived.Test.YtlhaiflebigdlaaCSFws1
section
namespace Go.Proofs.Ytlhaiflebigdlaa
open Go.RowKit Go.Proofs.Mem
set_option linter.unusedVariables false
set_option linter.unusedSimpArgs false
theorem safe_old {x : Ob} {w w' : World} (h : x.Ok w) (hb : Below w.heap.size w w') : x.Safe (fun j => w.heap.size ≤ j) w' :=
  Ob.Safe.tch (F := fun _ => False) ⟨h, fun _ _ _ _ _ _ _ _ _ hf => hf⟩ (Tch.of_below hb) fun i hi h => absurd hi (Nat.not_lt.2 h)
theorem m8_start {B : Nat} {w : World} {p b : Nat} {most : Int} (h : StIs w p b 0 (.map []) most 0 (.slice none 0 0) []) (hb : B ≤ b) : M8 B (fun _ => False) (w.alloc (.cells #[.slice none 0 0, .int .u64 0, .slice none 0 0] 34)) p b w.heap.size most [] [] := by
  have hB := below_al w (.cells #[.slice none 0 0, .int .u64 0, .slice none 0 0] 34)
  have hp := h.2.1.lt
  have hbp := h.1
  refine ⟨0, .map [], 0, _, _, _, ⟨h.below hB, ⟨Bk.new w _ _, World.ownsRow_nil _ _ _ _⟩, World.ownsRow_nil _ _ _ _, ⟨by omega, by omega, fun e => (by cases e), fun e => (by cases e), fun e => (by cases e), fun g e => (by cases e), fun e => (by cases e), fun e => (by cases e), fun e => (by cases e), fun g e => (by cases e), fun g e => (by cases e)⟩, ⟨hb, by omega, by omega⟩, fun x hx => (by cases hx), rfl, fun x hx => (by cases hx), fun k _ _ => rfl, List.nodup_nil⟩, rfl, Nat.le_refl _, Nat.le_refl _, fun _ _ h => h⟩
theorem M8.guard {B : Nat} {G G' : Nat → Prop} {w : World} {p b mb : Nat} {most : Int} {ml : List Ob} {mevs : List Ev} (M : M8 B G w p b mb most ml mevs) (hG : ∀ j, G' j → w.heap.size ≤ j) : M8 B G' w p b mb most ml mevs := by
  obtain ⟨n, D, now, ev, lv, mev, R, h1, h2, h3, _⟩ := M
  exact ⟨n, D, now, ev, lv, mev, R, h1, h2, h3, fun j hj hg => by have := pf_lt R hj; have := hG j hg; omega⟩
theorem safe_map {x : Ob} {F : Nat → Prop} {w w' : World} {kt : TypeId} {g n : Nat} {D : DataW Value} (h : x.Safe F w) (hm : Mp Try.prog w kt g n D) (ht : Tch (fun j => j = g) w w') : x.Safe F w' := by
  refine Ob.Safe.tch (F := fun j => F j ∨ j = g) ⟨h.1, fun k hk v e ad m c hv h0 hf => ?_⟩ (ht.mono fun i _ hi => .inr hi) fun i _ hi => .inl hi
  rcases hf with hf | hf
  · exact h.2 k hk v e ad m c hv h0 hf
  · have key : ∀ {α : Type} {r : Row α} {s bytes : Nat} {f : α → List Value} {p : α → Prop}, r.Ok w s bytes f p → r.v = .slice (some ad) m c → (∀ y, (f y).length = s) → 0 < s → False := by
      intro α r s bytes f p hr he hfl hs
      obtain ⟨A, c', e', hc, hn, hl, hx⟩ := hr.1
      rw [he] at e'
      injection e' with e1 e2 e3
      obtain ⟨ad', e4, _, hcell⟩ := hx (by rw [← e2]; exact h0)
      rw [← e1] at e4
      injection e4 with e4
      subst e4
      have hlen : 0 < (r.l.flatMap f).length := by
        rw [hl]
        exact Nat.mul_pos (by rw [← e2]; exact h0) hs
      have := hm.ne_cell (hcell 0 _ (List.getElem?_eq_getElem hlen))
      rw [add_block] at this
      exact this hf.symm
    subst hv
    have ho := h.1
    have hk' := hk
    simp only [rowsAt, List.mem_cons, List.not_mem_nil, or_false] at hk'
    rcases hk' with rfl | rfl | rfl | rfl | rfl | rfl | rfl | rfl | rfl | rfl | rfl | rfl | rfl | rfl <;> injection e with e
    · exact key ho.w.labels e (fun _ => rfl) (by omega)
    · exact key ho.w.select e (fun _ => rfl) (by omega)
    · exact key ho.w.tolerate e (fun _ => rfl) (by omega)
    · exact key ho.p.labels e (fun _ => rfl) (by omega)
    · exact key ho.p.select e (fun _ => rfl) (by omega)
    · exact key ho.p.tolerate e (fun _ => rfl) (by omega)
    · exact key ho.n.labels e (fun _ => rfl) (by omega)
    · exact key ho.n.taints e (fun _ => rfl) (by omega)
    · exact key ho.g.labels e (fun _ => rfl) (by omega)
    · exact key ho.g.taints e (fun _ => rfl) (by omega)
    · exact key ho.h.metrics e (fun _ => rfl) (by omega)
    · exact key ho.h.up.policies e (fun _ => rfl) (by omega)
    · exact key ho.h.down.policies e (fun _ => rfl) (by omega)
    · exact key ho.h.past e (fun _ => rfl) (by omega)
theorem Rel8.map_tch {B : Nat} {w w' : World} {p b n : Nat} {D : DataW Value} {most : Int} {now : Nat} {ev : Value} {evs : List Ev} {mb : Nat} {lv mev : Value} {mevs : List Ev} {ml : List Ob} {kt : TypeId} {g n9 : Nat} {D9 : DataW Value} (R : Rel8 B w p b n D most now ev evs mb lv mev mevs ml) (hm : Mp Try.prog w kt g n9 D9) (hne : ∀ j, PF p b mb ev mev lv j → ¬ j = g) (ht : Tch (fun j => j = g) w w') : Rel8 B w' p b n D most now ev evs mb lv mev mevs ml where
  st := ⟨R.st.1, ht.bk R.st.2.1 (hne _ (.inl rfl)), R.st.2.2.1.of_block (ht.2.2.2.2 b R.st.2.2.1.lt (hne _ (.inr (.inl rfl)))), ht.own R.st.2.2.2 fun j hj => hne _ (.inr (.inr (.inr (.inl hj))))⟩
  md := ⟨ht.bk R.md.1 (hne _ (.inr (.inr (.inl rfl)))), ht.own R.md.2 fun j hj => hne _ (.inr (.inr (.inr (.inr (.inl hj)))))⟩
  row := ht.own R.row fun j hj => hne _ (.inr (.inr (.inr (.inr (.inr hj)))))
  ap := R.ap
  low := R.low
  safe := fun x hx => safe_map (R.safe x hx) hm ht
  size := R.size
  at1 := fun x hx => by
    obtain ⟨h1, y, h2, h3, h4⟩ := R.at1 x hx
    exact ⟨h1, y, h2, safe_map h3 hm ht, h4⟩
  at0 := R.at0
  uniq := R.uniq
theorem tch_map {w w' W : World} {g : Nat} (h : Tch (fun j => j = g) W w) (hg : w.grownBy w' (some g)) : Tch (fun j => j = g) W w' :=
  h.trans ⟨hg.os, hg.tape, hg.output, hg.size, fun i hi hn => hg.block i hi (by simpa using hn)⟩ fun _ _ h => h
theorem tch_below {w w' W : World} {F : Nat → Prop} (h : Tch F W w) (hb : Below w.heap.size w w') : Tch F W w' := h.trans (Tch.of_below hb) fun _ _ h => h
theorem row_nil {α : Type} {w : World} {s bytes : Nat} {f : α → List Value} {p : α → Prop} : (Row.nil : Row α).Ok w s bytes f p := ⟨Sl.nil w s, by simp [Row.nil], fun x hx => by cases hx⟩
theorem zero_ok (w : World) : Ob.zero.Ok w :=
  ⟨rfl, Nat.zero_le _, rfl, ⟨rfl, rfl, rfl, row_nil, row_nil, row_nil, rfl⟩, ⟨Nat.zero_le _, Nat.zero_le _, rfl, rfl, rfl, rfl, row_nil, row_nil, row_nil, rfl⟩, ⟨Nat.zero_le _, rfl, rfl, row_nil, row_nil, rfl⟩, ⟨rfl, rfl, rfl, rfl, rfl, row_nil, row_nil, rfl⟩,
    ⟨Nat.zero_le _, rfl, rfl, row_nil, rfl, ⟨rfl, rfl, row_nil⟩, ⟨rfl, rfl, row_nil⟩, row_nil⟩⟩
theorem zero_cells : Ob.zero.cells.toArray = Z47 := rfl
/-- What the store's Get meets at a key. -/
theorem Rel8.get {B : Nat} {w : World} {p b n : Nat} {D : DataW Value} {most : Int} {now : Nat} {ev : Value} {evs : List Ev} {mb : Nat} {lv mev : Value} {mevs : List Ev} {ml : List Ob} (R : Rel8 B w p b n D most now ev evs mb lv mev mevs ml) (k : Key) (hk : KeyOk k) (bb : Bool) (hb : bb = true ↔ k ∈ keys ml) :
    ∃ x : Ob, x.Ok w ∧ valAt D (kOf k.1 k.2) (.agg Z47) = .agg x.cells.toArray ∧ Maps.has D (kOf k.1 k.2) = bb := by
  cases bb with
  | true =>
    obtain ⟨z, hz, e⟩ := List.mem_map.1 (hb.1 rfl)
    obtain ⟨h1, y, h2, h3, _⟩ := R.at1 z hz
    subst e
    exact ⟨y, h3.ok, h2, h1⟩
  | false =>
    have h0 := R.at0 k hk (fun h => by have := hb.2 h; cases this)
    exact ⟨Ob.zero, zero_ok w, by rw [valAt_not h0, zero_cells], h0⟩
theorem ranges_below {w w' : World} {k : TypeId} {b r n : Nat} {D : DataW Value} {left : Lit → Bool} {c : Nat} (h : w.ranges Try.prog k asIs b r n D left c) (hb : Below w.heap.size w w') : w'.ranges Try.prog k asIs b r n D left c :=
  h.kept (row := none) ⟨hb.os, hb.tape, hb.output, hb.size, fun i hi _ => hb.block i hi⟩ (by simp) (by simp)
theorem zeroB (w : World) : (zeroValue 4).run Try.prog w = .ok (.bool false) w := by kernel_rfl
theorem keys_take {ml : List Ob} {k : Nat} (hk : k < ml.length) (x : Key) : x ∈ keys (ml.take (k + 1)) ↔ x ∈ keys (ml.take k) ∨ x = (ml[k].kind, ml[k].name) := by
  rw [List.take_succ_eq_append_getElem hk, keys_append, List.mem_append]
  simp [keys]
set_option maxHeartbeats 4000000 in
set_option maxRecDepth 100000 in
theorem storeFollows_any (w : World) (A1 A2 : Option Addr) (c1 c2 : Nat) (l1 l2 : List A8) (h1 : Sl w 49 (.slice A1 l1.length c1) l1.length (l1.flatMap A8.cells)) (h2 : Sl w 49 (.slice A2 l2.length c2) l2.length (l2.flatMap A8.cells))
    (ok1 : ∀ x ∈ l1, x.o.Ok w) (ok2 : ∀ x ∈ l2, x.o.Ok w) (m1 : l1.length ≤ maxLen) (m2 : l2.length ≤ maxLen) :
    Calls Try.prog 3 #[.slice A1 l1.length c1, .slice A2 l2.length c2] w fun e w' => e = .returned (.bool true) ∧ Below w.heap.size w w' := by
  have HL := Lib.hid (And.intro h1 (And.intro h2 (And.intro ok1 (And.intro ok2 (And.intro m1 m2)))))
  clear h1 h2 ok1 ok2 m1 m2
  go_enter Try.func3, Try.ntmps3
  go_wp2_with fail
  refine (lives8 _).mono ?_
  rintro e w1 ⟨rfl, b1⟩
  go_wp2_with fail
  refine (few8 w1 A1 c1 l1 (HL.out.1.below b1) (fun x hx => (HL.out.2.2.1 x hx).below b1) HL.out.2.2.2.2.1).mono ?_
  rintro e w2 ⟨⟨bb1, rfl, hf1⟩, b2⟩
  have B2 := below_tr b1 b2
  clear b1 b2
  cases bb1 with
  | false =>
    go_wp2_with fail
    refine (lives8 _).mono ?_
    rintro e w3 ⟨rfl, b3⟩
    go_wp2_with fail
    go_ret
    exact ⟨rfl, below_tr B2 b3⟩
  | true =>
  go_wp2_with fail
  refine (few8 w2 A2 c2 l2 (HL.out.2.1.below B2) (fun x hx => (HL.out.2.2.2.1 x hx).below B2) HL.out.2.2.2.2.2).mono ?_
  rintro e w3 ⟨⟨bb2, rfl, hf2⟩, b3⟩
  have B3 := below_tr B2 b3
  clear B2 b3
  cases bb2 with
  | false =>
    go_wp2_with fail
    refine (lives8 _).mono ?_
    rintro e w3 ⟨rfl, b3⟩
    go_wp2_with fail
    go_ret
    exact ⟨rfl, below_tr B3 b3⟩
  | true =>
  have n1 : l1.length ≤ 60 := hf1 (by first | rfl | trivial)
  have n2 : l2.length ≤ 60 := hf2 (by first | rfl | trivial)
  clear hf1 hf2
  go_wp2_with fail
  refine (snew_any 100 w3 (by omega) (by omega)).mono ?_
  rintro e w4 ⟨p, b, rfl, hpb, hS, b4⟩
  have B4 := below_tr B3 b4
  have hb4 : w.heap.size ≤ b := Nat.le_trans B3.size hpb
  clear B3 b4 hpb
  go_wp2_with fail
  have hM0 := m8_start hS hb4
  have B5 := B4.alloc B4.size (.cells #[.slice none 0 0, .int .u64 0, .slice none 0 0] 34)
  obtain ⟨mb, hmb⟩ : ∃ mb, mb = w4.heap.size := ⟨_, rfl⟩
  obtain ⟨w5, hw5⟩ : ∃ w5, w5 = w4.alloc (.cells #[.slice none 0 0, .int .u64 0, .slice none 0 0] 34) := ⟨_, rfl⟩
  rw [← hmb, ← hw5] at hM0 ⊢
  rw [← hw5] at B5
  have HU := Lib.hid (Try.underlying56)
  have HV := Lib.hid (Try.underlying58)
  have hT : Try.prog.underlying 22 = some (.slice 58) := Try.underlying22
  clear hS hb4 B4 hmb hw5 w4
  go_loopw [47] (fun iv wr => ∃ (k : Nat) (ml : List Ob) (mevs : List Ev), k ≤ l1.length ∧ iv = .int .i64 k ∧ Hid (M8 w.heap.size (fun _ => False) wr p b mb 100 ml mevs) ∧ mevs.length ≤ k ∧ Below w.heap.size w wr) (fun iv wr => l1.length - (intOf iv).toNat)
  case atStart => exact ⟨0, [], [], Nat.zero_le _, rfl, Lib.hid hM0, Nat.le_refl _, B5⟩
  case round =>
    clear hM0 B5
    obtain ⟨k, ml, mevs, hk, rfl, hM, hme, hB⟩ := hrel
    by_cases hlt : k < l1.length
    · obtain ⟨b1, o1, rfl, hb1, hadd1, hcell⟩ := Sl.row' (s := 49) (f := A8.cells) a8_len (by omega) (HL.out.1.below hB) k hlt
      have hr : wr.rangeAt b1 (o1 + k * 49) (l1[k]).cells := fun j u hj => hcell j u hj
      have hox := HL.out.2.2.1 _ (List.getElem_mem hlt)
      obtain ⟨x, hx⟩ : ∃ x : A8, x = l1[k] := ⟨_, rfl⟩
      rw [← hx] at hr hox
      have hL49 := act_is49 x.k x.o x.r wr (hox.below hB)
      obtain ⟨L, hL⟩ : ∃ L : Array Value, L = actA x.k x.o x.r := ⟨_, rfl⟩
      rw [← hL] at hL49
      rw [a8_act, ← hL] at hr
      have hzz : Z49.size = L.size := hL49.1.symm
      have kz := Bk.new wr 58 Z49
      have kS := setCells_whole kz hzz
      have BS := below_setCells (g := wr.heap.size) L.toList 0 (hB.alloc hB.size (.cells Z49 58)) hB.size
      have bS := below_setCells (g := wr.heap.size) L.toList 0 (below_al wr (.cells Z49 58)) (Nat.le_refl _)
      obtain ⟨W2, hW2⟩ : ∃ W2, W2 = (wr.alloc (.cells Z49 58)).setCells wr.heap.size 0 L.toList := ⟨_, rfl⟩
      rw [← hW2] at kS BS bS
      have hlen' : (L.toList.toArray) = L := by simp
      have HR := Lib.hid (And.intro hr (And.intro kz (And.intro hW2.symm (And.intro hL49 (And.intro hzz (And.intro bS (And.intro BS (And.intro (safe_old hox BS) (And.intro hlen' kS)))))))))
      have HXL := Lib.hid hL
      clear hr hox hL hL49 hzz kz kS BS bS hW2 hcell hx hlen'
      go_wp2_with (first | (refine wpl_loadat HR.out.1 rfl 58 (.tmp 49) rfl rfl _ HV.out rfl (by simpa using info49 HR.out.2.2.2.1.1) ?_; rw [HR.out.2.2.2.2.2.2.2.2.1]) | (refine wpl_allocg rfl (run_alloc49 rfl _) ?_) | (refine wpl_storeg HR.out.2.1 HR.out.2.2.2.2.1 rfl rfl 58 (.tmp 9) (.tmp 50) rfl rfl rfl (info49 HR.out.2.2.2.1.1) HR.out.2.2.2.1.2 ?_; rw [HR.out.2.2.1]) | (refine wpl_loadg HR.out.2.2.2.2.2.2.2.2.2 rfl 58 (.tmp 9) rfl rfl _ HV.out rfl (info49 HR.out.2.2.2.1.1) ?_))
      rw [HXL.out]
      refine (do8_any (hM.out.below HR.out.2.2.2.2.2.1) (by omega) HR.out.2.2.2.2.2.2.1.size (fun _ h => h.elim) x.k x.o x.r HR.out.2.2.2.2.2.2.2.1).mono ?_
      rintro e w7 ⟨rfl, ml', mevs', hK, hM', hlen', hB', _⟩
      have hMM := Lib.hid hM'
      have hBB := Lib.hid (HR.out.2.2.2.2.2.2.1.trans hB')
      clear hM' hB' hK hM
      go_wp2_with fail
      exact ⟨⟨k + 1, ml', mevs', by omega, by go_num, hMM, by omega, hBB.out⟩, by simp [intOf]; omega⟩
    · rename World => wA
      have hke : k = l1.length := by omega
      have hM1 := hM.out.guard (G' := fun j => j = wA.heap.size) (fun j h => Nat.le_of_eq h.symm)
      obtain ⟨n, D, now, ev, lv, mev, R, hnow, hn, hml, hGP⟩ := id hM1
      obtain ⟨Al, cl, e1, _⟩ := id (Sl.of_own R.row)
      subst e1
      have hmm := @run_makeMap Try.prog
      have BM := below_al wA (.map #[] 0)
      have d0 := (R.md.below BM).1.cell 0
      have hdr : (#[Value.slice Al ml.length cl, .int .u64 now, mev] : Array Value)[0]? = some (.slice Al ml.length cl) := rfl
      rw [hdr] at d0
      have hmade := Mp.made wA Try.prog 62
      have hTO : Try.prog.underlying 30 = some (.slice 56) := Try.underlying30
      have hUN : Try.prog.underlying 60 = some (.map 62 4) := Try.underlying60
      have HUN := Lib.hid hUN
      have hml60 : ml.length ≤ 60 := by omega
      have HM1 := Lib.hid (And.intro hM1 (And.intro R (And.intro hnow (And.intro hn (And.intro hml (And.intro hGP hme))))))
      have HMD := Lib.hid (And.intro hmade BM)
      have HB := Lib.hid hB
      clear hM hM1 R hnow hn hml hGP hme hB hmade BM hdr hUN
      subst hke
      go_wp2_with fail
      obtain ⟨nb, hnb⟩ : ∃ nb, nb = wA.heap.size := ⟨_, rfl⟩
      obtain ⟨w6, hw6⟩ : ∃ w6, w6 = wA.alloc (.map #[] 0) := ⟨_, rfl⟩
      rw [← hw6] at HMD d0 ⊢
      rw [← hnb] at HMD HM1 ⊢
      have HNB := Lib.hid hnb
      clear hw6 d0 hmm hnb
      go_loopw [63] (fun iv w' => ∃ (k : Nat) (D9 : DataW Value), k ≤ ml.length ∧ iv = .int .i64 k ∧ Hid (Mp Try.prog w' 62 nb k D9 ∧ NamesAre D9 (· ∈ keys (ml.take k)) ∧ Below nb wA w')) (fun iv w' => ml.length - (intOf iv).toNat)
      case atStart => exact ⟨0, .map [], Nat.zero_le _, rfl, Lib.hid ⟨HMD.out.1, NamesAre.empty.congr fun k => by simp [keys], HMD.out.2⟩⟩
      case round =>
        obtain ⟨k, D9, hk, rfl, hN⟩ := hrel
        have hBw : Below wA.heap.size wA wr := by rw [← HNB.out]; exact hN.out.2.2
        by_cases hlt : k < ml.length
        · obtain ⟨b1, o1, rfl, hb1, hadd1, hcell⟩ := Sl.row' (s := 47) (f := Ob.cells) ob_len (by omega) ((Sl.of_own HM1.out.2.1.row).below hBw) k hlt
          have hr : wr.rangeAt b1 (o1 + k * 47) (ml[k]).cells := fun j u hj => hcell j u hj
          have hsafe := HM1.out.2.1.safe _ (List.getElem_mem hlt)
          have hiL := cells_is _ hsafe.ok
          have hkx : KeyOk ((ml[k]).kind, (ml[k]).name) := Ob.Ok.keyOk hsafe.ok
          have hkt := keys_take hlt
          obtain ⟨x, hx⟩ : ∃ x : Ob, x = ml[k] := ⟨_, rfl⟩
          rw [← hx] at hr hiL hkx hkt
          obtain ⟨L, hL⟩ : ∃ L : Array Value, L = x.cells.toArray := ⟨_, rfl⟩
          rw [← hL] at hiL
          have hlx : x.cells = L.toList := by rw [hL]
          rw [hlx] at hr
          have hzz : Z47.size = L.size := hiL.1.symm
          have kz := Bk.new wr 56 Z47
          have kS := setCells_whole kz hzz
          have bS := below_setCells (g := wr.heap.size) L.toList 0 (below_al wr (.cells Z47 56)) (Nat.le_refl _)
          obtain ⟨W2, hW2⟩ : ∃ W2, W2 = (wr.alloc (.cells Z47 56)).setCells wr.heap.size 0 L.toList := ⟨_, rfl⟩
          rw [← hW2] at kS bS
          have d0 : W2.cell? ⟨wr.heap.size, 0, none⟩ = some (.int .i64 x.kind) := by rw [kS.cell, hL]; rfl
          have d1 : W2.cell? ⟨wr.heap.size, 1, none⟩ = some (.string x.name) := by rw [kS.cell, hL]; rfl
          have hlen' : (L.toList.toArray) = L := by simp
          have HR := Lib.hid (And.intro hr (And.intro kz (And.intro hW2.symm (And.intro hiL (And.intro hzz (And.intro bS (And.intro hlen' (And.intro hkx hkt))))))))
          clear hr hsafe hiL hkx hkt hx hL hlx hzz kz kS bS hW2 hcell hlen' hb1 hadd1
          go_wp2_with (first | (refine wpl_loadat HR.out.1 rfl 56 (.tmp 65) rfl rfl _ HU.out rfl (by simpa using info47 HR.out.2.2.2.1) ?_; rw [HR.out.2.2.2.2.2.2.1]) | (refine wpl_allocg rfl (run_alloc47 rfl _) ?_) | (refine wpl_storeg HR.out.2.1 HR.out.2.2.2.2.1 rfl rfl 56 (.tmp 12) (.tmp 66) rfl rfl rfl (info47 HR.out.2.2.2.1) HR.out.2.2.2.1.2 ?_; rw [HR.out.2.2.1]) | (at_mapUpdate; refine wpl_store_map rfl _ _ _ 60 rfl 62 4 nmK HUN.out nb k D9 rfl (hN.out.1.below HR.out.2.2.2.2.2.1) (by unfold maxLen; omega) (.agg #[.int .i64 x.kind, .string x.name]) (.bool true) (kOf x.kind x.name) rfl rfl (keyOf_nm (x.kind, x.name) HR.out.2.2.2.2.2.2.2.1) ?_))
          intro w7 hM7 hg7 hs7
          have hN7 : Hid (Mp Try.prog w7 62 nb (k + 1) (D9.put (kOf x.kind x.name) (.held (.bool true))) ∧ NamesAre (D9.put (kOf x.kind x.name) (.held (.bool true))) (· ∈ keys (ml.take (k + 1))) ∧ Below nb wA w7) := by
            refine ⟨hM7, ?_, ?_⟩
            · refine hN.out.2.1.put hN.out.1.isMap HR.out.2.2.2.2.2.2.2.1 true ?_ fun k' hne => ?_
              · rw [HR.out.2.2.2.2.2.2.2.2]; simp
              · rw [HR.out.2.2.2.2.2.2.2.2]; simp [hne]
            · have h2 := hN.out.2.2.trans (HR.out.2.2.2.2.2.1.mono (by rw [HNB.out]; exact hBw.size))
              exact below_map h2 hg7 (Nat.le_of_lt (hN.out.1.below HR.out.2.2.2.2.2.1).lt) (Nat.le_refl _)
          clear hM7 hg7 hs7 hN d0 d1 hBw
          go_wp2_with fail
          exact ⟨⟨k + 1, _, by omega, by go_num, hN7⟩, by simp [intOf]; omega⟩
        · rename World => wB
          have hke : k = ml.length := by omega
          subst hke
          have hN2 := hN.out
          rw [List.take_length] at hN2
          obtain ⟨hmB, hnB, hbB⟩ := hN2
          have hBw : Below wA.heap.size wA wB := by rw [← HNB.out]; exact hbB
          have hM2 := HM1.out.1.below hBw
          have hB2 := below_tr HB.out hBw
          have hS2 := (HM1.out.2.1.below hBw).st
          obtain ⟨mevs1, hmevs1⟩ : ∃ l, l = mevs := ⟨_, rfl⟩
          have HMC := Lib.hid (And.intro hM2 (And.intro hmB (And.intro hnB (And.intro hB2 hS2))))
          have HME := Lib.hid hmevs1.symm
          have hme1 : mevs.length ≤ l1.length := HM1.out.2.2.2.2.2.2
          have hnbB : nb < wB.heap.size := hmB.lt
          have hnow1 := HM1.out.2.2.1
          clear hM2 hmB hnB hB2 hS2 hN hbB hBw hmevs1
          go_wp2_with fail
          refine (snow wB _ _ _ _ _ _ _ _ HMC.out.2.2.2.2).mono ?_
          rintro e w7 ⟨rfl, rfl⟩
          go_wp2_with fail
          go_loopw [78] (fun iv w' => ∃ (k : Nat) (ml' : List Ob) (mevs' evl : List Ev), k ≤ l2.length ∧ iv = .int .i64 k ∧ Hid (M8 w.heap.size (fun j => j = nb) w' p b mb 100 ml' mevs' ∧ mevs' = mevs ++ evl ∧ Replay (· ∈ keys ml) evl (· ∈ keys ml') ∧ Mp Try.prog w' 62 nb ml.length D9) ∧ mevs'.length ≤ l1.length + k ∧ Below w.heap.size w w' ∧ nb < w'.heap.size) (fun iv w' => l2.length - (intOf iv).toNat)
          case atStart => exact ⟨0, ml, mevs, [], Nat.zero_le _, rfl, Lib.hid ⟨HMC.out.1, (List.append_nil _).symm, fun _ => Iff.rfl, HMC.out.2.1⟩, by omega, HMC.out.2.2.2.1, hnbB⟩
          case round =>
            clear hnbB
            obtain ⟨k, ml', mevs', evl, hk, rfl, hC, hme, hB, hnbw⟩ := hrel
            by_cases hlt : k < l2.length
            · obtain ⟨b1, o1, rfl, hb1, hadd1, hcell⟩ := Sl.row' (s := 49) (f := A8.cells) a8_len (by omega) (HL.out.2.1.below hB) k hlt
              have hr : wr.rangeAt b1 (o1 + k * 49) (l2[k]).cells := fun j u hj => hcell j u hj
              have hox := HL.out.2.2.2.1 _ (List.getElem_mem hlt)
              obtain ⟨x, hx⟩ : ∃ x : A8, x = l2[k] := ⟨_, rfl⟩
              rw [← hx] at hr hox
              have hL49 := act_is49 x.k x.o x.r wr (hox.below hB)
              obtain ⟨L, hL⟩ : ∃ L : Array Value, L = actA x.k x.o x.r := ⟨_, rfl⟩
              rw [← hL] at hL49
              rw [a8_act, ← hL] at hr
              have hzz : Z49.size = L.size := hL49.1.symm
              have kz := Bk.new wr 58 Z49
              have kS := setCells_whole kz hzz
              have BS := below_setCells (g := wr.heap.size) L.toList 0 (hB.alloc hB.size (.cells Z49 58)) hB.size
              have bS := below_setCells (g := wr.heap.size) L.toList 0 (below_al wr (.cells Z49 58)) (Nat.le_refl _)
              obtain ⟨W2, hW2⟩ : ∃ W2, W2 = (wr.alloc (.cells Z49 58)).setCells wr.heap.size 0 L.toList := ⟨_, rfl⟩
              rw [← hW2] at kS BS bS
              have hlen' : (L.toList.toArray) = L := by simp
              have HR := Lib.hid (And.intro hr (And.intro kz (And.intro hW2.symm (And.intro hL49 (And.intro hzz (And.intro bS (And.intro BS (And.intro (safe_old hox BS) (And.intro hlen' kS)))))))))
              have HXL := Lib.hid hL
              clear hr hox hL hL49 hzz kz kS BS bS hW2 hcell hx hlen'
              go_wp2_with (first | (refine wpl_loadat HR.out.1 rfl 58 (.tmp 80) rfl rfl _ HV.out rfl (by simpa using info49 HR.out.2.2.2.1.1) ?_; rw [HR.out.2.2.2.2.2.2.2.2.1]) | (refine wpl_allocg rfl (run_alloc49 rfl _) ?_) | (refine wpl_storeg HR.out.2.1 HR.out.2.2.2.2.1 rfl rfl 58 (.tmp 15) (.tmp 81) rfl rfl rfl (info49 HR.out.2.2.2.1.1) HR.out.2.2.2.1.2 ?_; rw [HR.out.2.2.1]) | (refine wpl_loadg HR.out.2.2.2.2.2.2.2.2.2 rfl 58 (.tmp 15) rfl rfl _ HV.out rfl (info49 HR.out.2.2.2.1.1) ?_))
              rw [HXL.out]
              refine (do8_any (hC.out.1.below HR.out.2.2.2.2.2.1) (by omega) HR.out.2.2.2.2.2.2.1.size (fun j h => by have := HR.out.2.2.2.2.2.1.size; rw [h]; omega) x.k x.o x.r HR.out.2.2.2.2.2.2.2.1).mono ?_
              rintro e w7 ⟨rfl, ml'', mevs'', hK, hM', hlen', hB', hfr⟩
              have hCC : Hid (∃ evl', M8 w.heap.size (fun j => j = nb) w7 p b mb 100 ml'' mevs'' ∧ mevs'' = mevs ++ evl' ∧ Replay (· ∈ keys ml) evl' (· ∈ keys ml'') ∧ Mp Try.prog w7 62 nb ml.length D9) := by
                have hmp : Mp Try.prog w7 62 nb ml.length D9 := (hC.out.2.2.2.below HR.out.2.2.2.2.2.1).of_block (hfr nb rfl)
                rcases hK.names with ⟨rfl, rfl⟩ | ⟨z, rfl, hz⟩
                · exact ⟨evl, hM', hC.out.2.1, hC.out.2.2.1, hmp⟩
                · exact ⟨evl ++ [z], hM', by rw [hC.out.2.1, List.append_assoc], hC.out.2.2.1.snoc hz, hmp⟩
              have hBB := Lib.hid (HR.out.2.2.2.2.2.2.1.trans hB')
              have hnb7 : nb < w7.heap.size := by have := hB'.size; have := HR.out.2.2.2.2.2.1.size; have := (hC.out.2.2.2.below HR.out.2.2.2.2.2.1).lt; omega
              clear hM' hB' hK hC hfr
              go_wp2_with fail
              obtain ⟨evl', hCC⟩ := hCC
              exact ⟨⟨k + 1, ml'', mevs'', evl', by omega, by go_num, hCC, by omega, hBB.out, hnb7⟩, by simp [intOf]; omega⟩
            · rename World => wC
              have hke : k = l2.length := by omega
              subst hke
              obtain ⟨n', D', now', ev', lv', mev', R', hnow', hn', hml', hGP'⟩ := id hC.out.1
              have hevl := hC.out.2.1
              have hlen1 : now' = now + evl.length := by rw [hnow', hevl, List.length_append, hnow1]
              have hdrop : mevs'.drop now = evl := by rw [hevl, hnow1, List.drop_left]
              have hs9 := since_ok wC p b n' D' 100 now' ev' mevs' R'.st (by omega) (by omega) now now (by omega) (by rw [← hnow']; omega)
              rw [hdrop, show now' - now = evl.length by omega, hnow1] at hs9
              have H9 := Lib.hid hs9
              have HC := Lib.hid (And.intro R' (And.intro hGP' (And.intro hC.out.2.2.1 hC.out.2.2.2)))
              have HBC := Lib.hid hB
              have hevn : evl.length ≤ 120 := by omega
              have HMLN := Lib.hid (show ml'.length ≤ 120 by omega)
              have hmln : ml.length ≤ 60 := hml60
              clear hs9 R' hnow' hn' hml' hGP' hevl hlen1 hdrop hC hB
              go_wp2_with fail
              refine H9.out.mono ?_
              rintro e w7 ⟨v', rfl, hown, b7⟩
              obtain ⟨Ae, ce, e1, _⟩ := id (Sl.of_own hown)
              subst e1
              have HO := Lib.hid (And.intro hown b7)
              have hTE : Try.prog.underlying 32 = some (.slice 67) := Try.underlying32
              have h0D : Hid (∃ S, Mp Try.prog w7 62 nb (ml.length + 0) D9 ∧ NamesAre D9 S ∧ Replay S (evl.drop 0) (· ∈ keys ml') ∧ Tch (fun j => j = nb) w7 w7) := by
                refine ⟨(fun x => x ∈ keys ml), ?_, ?_, ?_, ?_⟩
                · rw [Nat.add_zero]
                  exact HC.out.2.2.2.below b7
                · exact HMC.out.2.2.1
                · rw [List.drop_zero]
                  exact HC.out.2.2.1
                · exact Tch.of_below (Below.refl _ _)
              clear hown b7 H9
              go_wp2_with fail
              go_loopw [96] (fun iv w' => ∃ (k : Nat) (D9' : DataW Value), k ≤ evl.length ∧ iv = .int .i64 k ∧ Hid (∃ S, Mp Try.prog w' 62 nb (ml.length + k) D9' ∧ NamesAre D9' S ∧ Replay S (evl.drop k) (· ∈ keys ml') ∧ Tch (fun j => j = nb) w7 w')) (fun iv w' => evl.length - (intOf iv).toNat)
              case atStart => exact ⟨0, D9, Nat.zero_le _, rfl, h0D⟩
              case round =>
                clear h0D
                obtain ⟨k, D9', hk, rfl, hD⟩ := hrel
                by_cases hlt : k < evl.length
                · have hnC : nb < wC.heap.size := HC.out.2.2.2.lt
                  obtain ⟨S, hmp, hna, hre, htch⟩ := hD.out
                  have hownr := htch.own HO.out.1 (fun j hj => by have := (HO.out.1.lt j hj).1; omega)
                  obtain ⟨b1, o1, rfl, hb1, hadd1, hcell⟩ := Sl.row' (s := 4) (f := Ev.cells) (fun _ => rfl) (by omega) (Sl.of_own hownr) k hlt
                  rw [List.drop_eq_getElem_cons hlt] at hre
                  obtain ⟨S1, hst, hre⟩ := hre
                  obtain ⟨x, hx⟩ : ∃ x : Ev, x = evl[k] := ⟨_, rfl⟩
                  rw [← hx] at hcell hst
                  have c0 : wr.cell? ⟨b1, o1 + k * 4, none⟩ = some (.int .i64 x.ty) := hcell 0 (.int .i64 x.ty) rfl
                  have c1 := hcell 1 (.int .i64 x.kind) rfl
                  have c2 := hcell 2 (.string x.name) rfl
                  have c3 := hcell 3 (.int .u64 x.ver) rfl
                  obtain ⟨⟨bb, hval, hbb⟩, hna'⟩ := hna.event hmp.isMap hst
                  have BA : Below wr.heap.size wr ((wr.alloc (.cells #[.int .i64 x.ty, .int .i64 x.kind, .string x.name, .int .u64 x.ver] 67)).alloc (.cells #[.int .i64 x.kind, .string x.name] 62)) := ((Below.refl _ _).alloc (Nat.le_refl _) _).alloc (by simp) _
                  have K1 : Bk ((wr.alloc (.cells #[.int .i64 x.ty, .int .i64 x.kind, .string x.name, .int .u64 x.ver] 67)).alloc (.cells #[.int .i64 x.kind, .string x.name] 62)) wr.heap.size 67 #[.int .i64 x.ty, .int .i64 x.kind, .string x.name, .int .u64 x.ver] := (Bk.new wr _ _).alloc _
                  have K2 : Bk ((wr.alloc (.cells #[.int .i64 x.ty, .int .i64 x.kind, .string x.name, .int .u64 x.ver] 67)).alloc (.cells #[.int .i64 x.kind, .string x.name] 62)) (wr.heap.size + 1) 62 #[.int .i64 x.kind, .string x.name] := by
                    have := Bk.new (wr.alloc (.cells #[.int .i64 x.ty, .int .i64 x.kind, .string x.name, .int .u64 x.ver] 67)) 62 #[.int .i64 x.kind, .string x.name]
                    rw [World.size_alloc] at this
                    exact this
                  obtain ⟨WE, hWE⟩ : ∃ WE, WE = ((wr.alloc (.cells #[.int .i64 x.ty, .int .i64 x.kind, .string x.name, .int .u64 x.ver] 67)).alloc (.cells #[.int .i64 x.kind, .string x.name] 62)) := ⟨_, rfl⟩
                  rw [← hWE] at BA K1 K2
                  have HWE := Lib.hid hWE.symm
                  clear hWE
                  have HX := Lib.hid (And.intro hmp (And.intro hre (And.intro htch (And.intro hst.1 (And.intro hval (And.intro hbb (And.intro hna' (And.intro BA (And.intro K1 K2)))))))))
                  clear hmp hna hre htch hst hval hbb hna' BA K1 K2 hownr hcell hx hD hb1 hadd1
                  obtain ⟨q, hq⟩ : ∃ q, q = wr.heap.size := ⟨_, rfl⟩
                  rw [← hq] at HX
                  have HQ := Lib.hid hq.symm
                  clear hq
                  go_wp2_with fail
                  rw [HWE.out, HQ.out]
                  have d0 : WE.cell? ⟨q, 0, none⟩ = some (.int .i64 x.ty) := HX.out.2.2.2.2.2.2.2.2.1.cell 0
                  refine wp_region_sched [0, 1, 2, 3, 4, 5, 6] [] [] (fun i => !(i == 1 || i == 2 || i == 4)) (fun w' => Bk w' q 67 #[.int .i64 x.ty, .int .i64 x.kind, .string x.name, .int .u64 x.ver] ∧ Bk w' (q + 1) 62 #[.int .i64 x.kind, .string x.name] ∧ Mp Try.prog w' 62 nb (ml.length + k) D9') (by kernel_rfl) (by kernel_rfl) (fun c a d v w h => by cases d <;> exact h) ⟨HX.out.2.2.2.2.2.2.2.2.1, HX.out.2.2.2.2.2.2.2.2.2, HX.out.1.below (by rw [HQ.out]; exact HX.out.2.2.2.2.2.2.2.1.drew)⟩ fun u0 Hu => ?_
                  refine readsL_free (v := ?_) (by rfl) (by rfl) (fun w' => ?_) ?_
                  rotate_left
                  · go_simp
                    with_reducible rfl
                  simp only [Act.put, List.setIfInBounds_toArray, List.set_cons_zero, List.set_cons_succ, List.getElem_toArray, List.getElem_cons_succ, List.getElem_cons_zero]
                  refine readsL_step (v := ?_) (by rfl) (by rfl) (by rfl) (fun w' hS => ?_) ?_
                  rotate_left
                  · have v0 := hS.1.cell 0
                    have v1 := hS.2.1.cell 0
                    have v2 := hS.2.1.cell 1
                    have hl := hS.2.2.run_look nmK HUN.out (zeroB w') (keyOf_nm (x.kind, x.name) HX.out.2.2.2.1)
                    rw [HX.out.2.2.2.2.1] at hl
                    clear hS
                    go_simp
                    with_reducible rfl
                  simp only [Act.put, List.setIfInBounds_toArray, List.set_cons_zero, List.set_cons_succ, List.getElem_toArray, List.getElem_cons_succ, List.getElem_cons_zero]
                  refine readsL_step (v := ?_) (by rfl) (by rfl) (by rfl) (fun w' hS => ?_) ?_
                  rotate_left
                  · have v0 := hS.1.cell 0
                    have v1 := hS.2.1.cell 0
                    have v2 := hS.2.1.cell 1
                    have hl := hS.2.2.run_look nmK HUN.out (zeroB w') (keyOf_nm (x.kind, x.name) HX.out.2.2.2.1)
                    rw [HX.out.2.2.2.2.1] at hl
                    clear hS
                    go_simp
                    with_reducible rfl
                  simp only [Act.put, List.setIfInBounds_toArray, List.set_cons_zero, List.set_cons_succ, List.getElem_toArray, List.getElem_cons_succ, List.getElem_cons_zero]
                  refine readsL_free (v := ?_) (by rfl) (by rfl) (fun w' => ?_) ?_
                  rotate_left
                  · go_simp
                    with_reducible rfl
                  simp only [Act.put, List.setIfInBounds_toArray, List.set_cons_zero, List.set_cons_succ, List.getElem_toArray, List.getElem_cons_succ, List.getElem_cons_zero]
                  refine readsL_step (v := ?_) (by rfl) (by rfl) (by rfl) (fun w' hS => ?_) ?_
                  rotate_left
                  · have v0 := hS.1.cell 0
                    have v1 := hS.2.1.cell 0
                    have v2 := hS.2.1.cell 1
                    have hl := hS.2.2.run_look nmK HUN.out (zeroB w') (keyOf_nm (x.kind, x.name) HX.out.2.2.2.1)
                    rw [HX.out.2.2.2.2.1] at hl
                    clear hS
                    go_simp
                    with_reducible rfl
                  simp only [Act.put, List.setIfInBounds_toArray, List.set_cons_zero, List.set_cons_succ, List.getElem_toArray, List.getElem_cons_succ, List.getElem_cons_zero]
                  refine readsL_free (v := ?_) (by rfl) (by rfl) (fun w' => ?_) ?_
                  rotate_left
                  · go_simp
                    with_reducible rfl
                  simp only [Act.put, List.setIfInBounds_toArray, List.set_cons_zero, List.set_cons_succ, List.getElem_toArray, List.getElem_cons_succ, List.getElem_cons_zero]
                  refine readsL_free (v := ?_) (by rfl) (by rfl) (fun w' => ?_) ?_
                  rotate_left
                  · go_simp
                    with_reducible rfl
                  simp only [Act.put, List.setIfInBounds_toArray, List.set_cons_zero, List.set_cons_succ, List.getElem_toArray, List.getElem_cons_succ, List.getElem_cons_zero]
                  refine readsL_nil ?_
                  refine earlyL_nil ?_
                  simp only [List.filterMap_nil]
                  have BU : Below q wr u0 := by
                    rw [Hu.out]
                    exact HX.out.2.2.2.2.2.2.2.1.drew
                  rw [HX.out.2.2.2.2.2.1]
                  have e0 : u0.cell? ⟨q, 0, none⟩ = some (.int .i64 x.ty) := by rw [Hu.out]; exact d0
                  have e1 : u0.cell? ⟨q + 1, 0, none⟩ = some (.int .i64 x.kind) := by rw [Hu.out]; exact HX.out.2.2.2.2.2.2.2.2.2.cell 0
                  have e2 : u0.cell? ⟨q + 1, 1, none⟩ = some (.string x.name) := by rw [Hu.out]; exact HX.out.2.2.2.2.2.2.2.2.2.cell 1
                  have HBU := Lib.hid (show Below wr.heap.size wr u0 by rw [HQ.out]; exact BU)
                  clear Hu d0 BU c0 c1 c2 c3
                  go_wp2_with (at_mapUpdate; refine wpl_store_map rfl _ _ _ 60 rfl 62 4 nmK HUN.out nb (ml.length + k) D9' rfl (HX.out.1.below HBU.out) (by unfold maxLen; omega) (.agg #[.int .i64 x.kind, .string x.name]) (.bool (x.ty != 2)) (kOf x.kind x.name) rfl rfl (keyOf_nm (x.kind, x.name) HX.out.2.2.2.1) ?_)
                  intro w8 hM8 hg8 hs8
                  have hD8 : Hid (∃ S, Mp Try.prog w8 62 nb (ml.length + (k + 1)) (D9'.put (kOf x.kind x.name) (.held (.bool (x.ty != 2)))) ∧ NamesAre (D9'.put (kOf x.kind x.name) (.held (.bool (x.ty != 2)))) S ∧ Replay S (evl.drop (k + 1)) (· ∈ keys ml') ∧ Tch (fun j => j = nb) w7 w8) :=
                    ⟨S1, by rw [← Nat.add_assoc]; exact hM8, HX.out.2.2.2.2.2.2.1, HX.out.2.1, tch_map (tch_below HX.out.2.2.1 HBU.out) hg8⟩
                  clear hM8 hg8 hs8 e0 e1 e2
                  go_wp2_with fail
                  exact ⟨⟨k + 1, _, by omega, by go_num, hD8⟩, by simp [intOf]; omega⟩
                · rename World => wD
                  have hke : k = evl.length := by omega
                  subst hke
                  have hD2 : Hid (Mp Try.prog wD 62 nb (ml.length + evl.length) D9' ∧ NamesAre D9' (· ∈ keys ml') ∧ Rel8 w.heap.size wD p b n' D' 100 now' ev' mevs' mb lv' mev' mevs' ml' ∧ Below w.heap.size w wD) := by
                    obtain ⟨S, hmp, hna, hre, htch⟩ := hD.out
                    rw [List.drop_length] at hre
                    have R7 := HC.out.1.below HO.out.2
                    refine ⟨hmp, hna.congr hre, R7.map_tch (HC.out.2.2.2.below HO.out.2) HC.out.2.1 htch, ?_⟩
                    exact ((HBC.out).trans (HO.out.2.mono HBC.out.size)).trans (htch.low (Nat.le_trans HBC.out.size HO.out.2.size) fun i hi => by rw [hi]; have := HNB.out; have := HB.out.size; omega)
                  clear hD
                  go_wp2_with (at_range; refine wpList_range_own _ rfl _ 60 rfl 62 4 nmK HUN.out asIs nb (ml.length + evl.length) D9' rfl hD2.out.1 ?_; intro w0 hrg0 hg0 hs0)
                  go_frame
                  have hB0 : Below wD.heap.size wD w0 := ⟨hg0.os, hg0.tape, hg0.output, hg0.size, fun i hi => hg0.block i hi (by simp)⟩
                  have hnd := hD2.out.2.2.1.uniq
                  have hko : ∀ x ∈ keys ml', KeyOk x := fun x hx => by
                    obtain ⟨z, hz, e⟩ := List.mem_map.1 hx
                    rw [← e]
                    exact Ob.Ok.keyOk (hD2.out.2.2.1.safe z hz).ok
                  have hst0 : Hid (w0.ranges Try.prog 62 asIs nb wD.heap.size (ml.length + evl.length) D9' (Maps.has D9') (Maps.size D9') ∧ 0 + cnt (Maps.has D9') (keys ml') = (keys ml').length ∧ (∀ kl, Maps.has D9' kl = true → Maps.has D9' kl = true) ∧ Below wD.heap.size wD w0) := by
                    refine ⟨hrg0, ?_, fun _ h => h, hB0⟩
                    rw [Nat.zero_add]
                    refine cnt_all _ fun x hx => ?_
                    obtain ⟨bb, h1, h2⟩ := hD2.out.2.1.1 x (hko x hx)
                    cases hh : Maps.has D9' (kOf x.1 x.2) with
                    | true => rfl
                    | false =>
                      rw [valAt_not hh] at h1
                      injection h1 with h1
                      rw [← h1] at h2
                      have := h2.2 hx
                      cases this
                  have HK := Lib.hid (And.intro hnd hko)
                  have hkl : (keys ml').length = ml'.length := by simp [keys]
                  have HKL := Lib.hid hkl
                  have hml'n := HMLN.out
                  clear hrg0 hg0 hs0 hB0 hnd hko hkl
                  go_wp2_with fail
                  go_loopw [21] (fun nv w' => ∃ (left : Lit → Bool) (cn c : Nat), nv = .int .i64 c ∧ Hid (w'.ranges Try.prog 62 asIs nb wD.heap.size (ml.length + evl.length) D9' left cn ∧ c + cnt left (keys ml') = (keys ml').length ∧ (∀ kl, left kl = true → Maps.has D9' kl = true) ∧ Below wD.heap.size wD w')) (fun nv w' => w'.rangeLeft nb wD.heap.size)
                  case atStart => exact ⟨_, _, 0, rfl, hst0⟩
                  case round =>
                    clear hst0
                    obtain ⟨left, cn, c, rfl, hE⟩ := hrel
                    go_wp2_with (at_next; refine wpList_next_ranges _ rfl _ rfl 62 nmK asIs id id (fun key kl _ => ⟨key, rfl⟩) (fun v y _ => ⟨v, rfl⟩) nb wD.heap.size (ml.length + evl.length) D9' left cn rfl hE.out.1 ?_ ?_)
                    · intro hc0 hl0
                      have hcc : c = ml'.length := by
                        have h1 := hE.out.2.1
                        rw [cnt_none hl0, HKL.out] at h1
                        exact h1
                      have hEB := Lib.hid hE.out.2.2.2
                      clear hE hc0 hl0
                      subst hcc
                      go_wp2_with fail
                      refine (slen wr _ _ _ _ _ _ _ _ (hD2.out.2.2.1.below hEB.out).st).mono ?_
                      rintro e w9 ⟨rfl, rfl⟩
                      rw [hD2.out.2.2.1.size]
                      go_wp2_with fail
                      go_ret
                      exact ⟨by simp, below_tr hD2.out.2.2.2 hEB.out⟩
                    · intro x cv kl y1 y2 w1 cn1 hkey hlk hv hat hrg1 hlt hg1 hs1 hen
                      try simp only [id] at hkey
                      try simp only [id] at hv
                      try simp only [id] at hen
                      obtain ⟨y, hyk, hye⟩ := hD2.out.2.1.2 kl (hE.out.2.2.1 kl hlk)
                      subst hye
                      obtain rfl := key_out hyk hkey
                      obtain ⟨bb, hval, hbb⟩ := hD2.out.2.1.1 y hyk
                      have hcv : cv = .bool bb := by
                        unfold asIs at hv
                        injection hv with hv
                        injection hv with h1 h2
                        have h3 := hat (.held (.bool false))
                        unfold valAt at hval
                        rw [h3, ← h1] at hval
                        exact hval
                      subst hcv
                      have hB1 : Below wD.heap.size wD w1 := by
                        have := hE.out.2.2.2
                        refine ⟨hg1.os.trans this.os, hg1.tape.trans this.tape, hg1.output.trans this.output, Nat.le_trans this.size hg1.size, fun i hi => (hg1.block i (Nat.lt_of_lt_of_le hi this.size) (by simp; omega)).trans (this.block i hi)⟩
                      have hcnt : c + (if bb then 1 else 0) + cnt (fun z => left z && !z.sameKey (kOf y.1 y.2)) (keys ml') = (keys ml').length := by
                        have h1 := hE.out.2.1
                        cases bb with
                        | true =>
                          have := cnt_in hyk hlk (keys ml') HK.out.2 HK.out.1 (hbb.1 rfl)
                          simp only [if_true]
                          omega
                        | false =>
                          have := cnt_out (left := left) hyk (keys ml') HK.out.2 (fun h => by have := hbb.2 h; cases this)
                          simp only [Bool.false_eq_true, if_false]
                          omega
                      have hle : ∀ kl, (left kl && !kl.sameKey (kOf y.1 y.2)) = true → Maps.has D9' kl = true := fun kl h => hE.out.2.2.1 kl (by simp at h; exact h.1)
                      obtain ⟨z, hz1, hz2, hz3⟩ := (hD2.out.2.2.1.below hB1).get y hyk bb hbb
                      have HE1 := Lib.hid (And.intro hrg1 (And.intro hcnt (And.intro hle (And.intro hB1 (And.intro hz1 (And.intro hz2 (And.intro hz3 (And.intro hyk (And.intro hE.out.1 hlt)))))))))
                      clear hrg1 hcnt hle hB1 hz1 hz2 hz3 hkey hlk hv hat hg1 hs1 hval hbb hE
                      go_wp2_with fail
                      have BA := below_al w1 (.cells #[.int .i64 y.1, .string y.2] 62)
                      refine (sget_any _ p b n' D' 100 now' ev' mevs' ((hD2.out.2.2.1.below HE1.out.2.2.2.1).below BA).st y.1 y.2 HE1.out.2.2.2.2.2.2.2.1.1 HE1.out.2.2.2.2.2.2.2.1.2 z (HE1.out.2.2.2.2.1.below BA) HE1.out.2.2.2.2.2.1).mono ?_
                      rintro e w9 ⟨V, rfl, hn9, b9⟩
                      rw [HE1.out.2.2.2.2.2.2.1]
                      have hiL := cells_is _ (HE1.out.2.2.2.2.1.fit.ok hn9)
                      obtain ⟨L, hL⟩ : ∃ L : Array Value, L = (z.reval V).cells.toArray := ⟨_, rfl⟩
                      rw [← hL] at hiL ⊢
                      have hzz : Z47.size = L.size := hiL.1.symm
                      have kz := Bk.new w9 56 Z47
                      have bS := below_setCells (g := w9.heap.size) L.toList 0 (below_al w9 (.cells Z47 56)) (Nat.le_refl _)
                      obtain ⟨W2, hW2⟩ : ∃ W2, W2 = (w9.alloc (.cells Z47 56)).setCells w9.heap.size 0 L.toList := ⟨_, rfl⟩
                      rw [← hW2] at bS
                      have B9 := below_tr (below_tr BA b9) bS
                      have HR := Lib.hid (And.intro kz (And.intro hW2.symm (And.intro hiL (And.intro hzz B9))))
                      clear hL hiL hzz kz bS hW2 B9 hn9 b9 BA hen
                      have hE9 : Hid (∃ (left' : Lit → Bool) (cn' : Nat), W2.ranges Try.prog 62 asIs nb wD.heap.size (ml.length + evl.length) D9' left' cn' ∧ c + (if bb then 1 else 0) + cnt left' (keys ml') = (keys ml').length ∧ (∀ kl, left' kl = true → Maps.has D9' kl = true) ∧ Below wD.heap.size wD W2 ∧ W2.rangeLeft nb wD.heap.size < wr.rangeLeft nb wD.heap.size) := by
                        have hr := ranges_below HE1.out.1 HR.out.2.2.2.2
                        exact ⟨_, _, hr, HE1.out.2.1, HE1.out.2.2.1, below_tr HE1.out.2.2.2.1 (HR.out.2.2.2.2.mono (Nat.le_refl _)), by rw [hr.left_eq, HE1.out.2.2.2.2.2.2.2.2.1.left_eq]; exact HE1.out.2.2.2.2.2.2.2.2.2⟩
                      have hcl : c ≤ 120 := by
                        have := HE1.out.2.1
                        have := HKL.out
                        omega
                      cases bb with
                      | true =>
                        go_wp2_with (first | (refine wpl_allocg rfl (run_alloc47 rfl _) ?_) | (refine wpl_storeg HR.out.1 HR.out.2.2.2.1 rfl rfl 56 (.tmp 24) (.tmp 132) rfl rfl rfl (info47 HR.out.2.2.1) HR.out.2.2.1.2 ?_; rw [HR.out.2.1]))
                        obtain ⟨left', cn', h1, h2, h3, h4, h5⟩ := hE9
                        exact ⟨⟨left', cn', c + 1, by go_num, Lib.hid ⟨h1, by simpa using h2, h3, h4⟩⟩, h5⟩
                      | false =>
                        go_wp2_with (first | (refine wpl_allocg rfl (run_alloc47 rfl _) ?_) | (refine wpl_storeg HR.out.1 HR.out.2.2.2.1 rfl rfl 56 (.tmp 24) (.tmp 132) rfl rfl rfl (info47 HR.out.2.2.1) HR.out.2.2.1.2 ?_; rw [HR.out.2.1]))
                        obtain ⟨left', cn', h1, h2, h3, h4, h5⟩ := hE9
                        exact ⟨⟨left', cn', c, rfl, Lib.hid ⟨h1, by simpa using h2, h3, h4⟩⟩, h5⟩
end Go.Proofs.Ytlhaiflebigdlaa
end
section
namespace Go.Proofs.Ytlhaiflebigdlaa
open Go.RowKit Go.Proofs.Mem
set_option linter.unusedVariables false
theorem list_49 {cs : List Value} {k : Int} {o : Ob} {r : Bool} (hl : cs.length = 49) (h0 : (cs.drop 0).take 1 = [.int .i64 k]) (h1 : (cs.drop 1).take 47 = o.cells) (h2 : (cs.drop 48).take 1 = [.bool r]) : cs = A8.cells ⟨k, o, r⟩ := by
  have e3 : cs.drop 48 = [.bool r] := by rw [← h2, List.take_of_length_le (by simp [hl])]
  have e2 := chain h1 e3
  have e1 := chain h0 e2
  rw [List.drop_zero] at e1
  rw [e1]
  rfl
theorem acts8_of {w : World} {A : Option Addr} {n c m : Nat} (h : Mem.Ok Try.prog w (m + 8) 22 (Value.slice A n c).cells.toList) :
    ∃ xs : List A8, xs.length = n ∧ n ≤ maxLen ∧ Sl w 49 (.slice A n c) n (xs.flatMap A8.cells) ∧ ∀ x ∈ xs, x.o.Ok w := by
  have hcs : Try.prog.cellsOf 58 = 49 := by kernel_rfl
  have hci : Try.prog.cellsOf 3 = 1 := by kernel_rfl
  have hco : Try.prog.cellsOf 56 = 47 := by kernel_rfl
  have hcb : Try.prog.cellsOf 4 = 1 := by kernel_rfl
  obtain ⟨v, m', xs, e1, hS, hm, hel⟩ := ok_slice Try.underlying22 h (by omega)
  rw [hcs] at hS hel
  have e2 : v = .slice A n c := by simp [Value.cells] at e1; exact e1.symm
  subst e2
  obtain ⟨rfl, _, _, hl, _⟩ := hS.parts
  obtain ⟨l, h1, h2, h3⟩ := rows_of (s := 49) A8.cells (fun x => x.o.Ok w) _ xs hl (fun i hi => by
    obtain ⟨hlen, hf⟩ := ok_struct Try.underlying58 (hel i hi)
    rw [hcs] at hlen
    obtain ⟨z0, e0, _⟩ := ok_int Try.underlying3 (ok_field hf 0 3 0 1 (by kernel_rfl) hci)
    obtain ⟨o, e1, ho⟩ := obj_of (ok_field hf 1 56 1 47 (by kernel_rfl) hco)
    obtain ⟨r, e2⟩ := ok_bool Try.underlying4 (ok_field hf 2 4 48 1 (by kernel_rfl) hcb)
    exact ⟨⟨z0, o, r⟩, list_49 hlen e0 e1 e2, ho⟩)
  exact ⟨l, h1, hm, by rw [← h2]; exact hS, h3⟩
theorem storeFollows_walk (A1 : Option Addr) (n1 c1 : Nat) (A2 : Option Addr) (n2 c2 : Nat) (w : World) (h1 : Mem.Ok Try.prog w 9 22 (Value.slice A1 n1 c1).cells.toList) (h2 : Mem.Ok Try.prog w 9 22 (Value.slice A2 n2 c2).cells.toList) :
    Calls Try.prog 3 #[.slice A1 n1 c1, .slice A2 n2 c2] w fun e w' => e = .returned (.bool true) ∧ Below w.heap.size w w' := by
  obtain ⟨l1, e1, m1, s1, o1⟩ := acts8_of (m := 1) h1
  obtain ⟨l2, e2, m2, s2, o2⟩ := acts8_of (m := 1) h2
  subst e1
  subst e2
  exact storeFollows_any w A1 A2 c1 c2 l1 l2 s1 s2 o1 o2 m1 m2
end Go.Proofs.Ytlhaiflebigdlaa
end
