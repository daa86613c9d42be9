/-
  The walk of trimtablaw14.PodsMade. (printed by wip/gen_pm.py)
-/
import Derived.Test.YtilmmmokobhnfaaPods3
import Derived.Test.YtilmmmokobhnfaaMade
import Derived.Test.YtilmmmokobhnfaaVars
import Derived.Test.YtilmmmokobhnfaaQuiet
import Derived.Test.YtilmmmokobhnfaaRight0
import Derived.Test.YtilmmmokobhnfaaRight1
import Derived.Deep.DeepCutAuto
namespace Go.Proofs.Ytilmmmokobhnfaa
open Go.RowKit Go.Proofs.Mem
set_option linter.unusedVariables false
set_option linter.unusedSimpArgs false
theorem nm_le {s : ByteArray} (h : nmB s = true) : s.size ≤ 32 := by
  unfold nmB at h
  simp only [Bool.and_eq_true, decide_eq_true_eq] at h
  exact h.2.2
theorem kv_s {k v : ByteArray} (h : kvB k v = true) : s255 k ∧ s255 v := by
  unfold kvB at h
  simp only [Bool.and_eq_true, Bool.or_eq_true, decide_eq_true_eq] at h
  refine ⟨?_, ?_⟩
  · have := nm_le h.1
    unfold s255; omega
  · rcases h.2 with h2 | h2
    · subst h2
      show _ ≤ _
      decide
    · have := nm_le h2
      unfold s255; omega
theorem rt_s {l : List Lab} (h : rtB l = true) : LabsS l := by
  unfold rtB at h
  simp only [Bool.and_eq_true, decide_eq_true_eq] at h
  refine ⟨by omega, fun x hx => ?_⟩
  obtain ⟨i, hi, rfl⟩ := List.getElem_of_mem hx
  exact kv_s (h.1 i hi).1
theorem aks_s {l : List Req} (h : aksB l = true) : ReqsS l := by
  unfold aksB at h
  simp only [Bool.and_eq_true, decide_eq_true_eq, List.all_eq_true] at h
  refine ⟨by omega, fun x hx => ?_⟩
  have := h.1 x hx
  unfold rqB at this
  simp only [Bool.and_eq_true] at this
  exact kv_s this.1
theorem wants_s {a b : Int} {l : List Lab} {s : List Req} {t : List Lab} {m : Int} (h : wantsB a b l s t m = true) : LabsS l ∧ ReqsS s ∧ LabsS t := by
  unfold wantsB at h
  simp only [Bool.and_eq_true] at h
  exact ⟨rt_s h.2.1, aks_s h.2.2.1, rt_s h.2.2.2.1⟩
theorem obWl_ok {k : Int} {x : Wl} {w : World} {name : ByteArray} (hk : wfi .i64 k) (hn : wfs name) (hx : x.Ok w) : (Ob.mk k name 0 x .zero .zero .zero .zero).Ok w := ⟨hk, hn, wfu0, hx, ⟨wfs0, wfs0, wf0, wf0, wf0, wf0, Row.nil_ok, Row.nil_ok, Row.nil_ok, wf0⟩, nd0_ok w, gr0_ok w, hp0_ok w⟩
theorem wlOk_below {x : Wl} {w w' : World} (h : x.Ok w) (hb : Below w.heap.size w w') : x.Ok w' := ⟨h.replicas, h.cpu, h.mem, h.labels.below hb, h.select.below hb, h.tolerate.below hb, h.warm⟩
theorem neq_res (a b : Int) (w : World) : (binOp .neq 24 (.agg #[.int .i64 a, .int .i64 b]) (.agg #[.int .i64 a, .int .i64 b])).run Try.prog w = .ok (.bool false) w := by
  have u := Try.underlying22
  have i := Try.isAgg22
  have z := Try.sizeOf22
  have hS : Try.prog.underlying 24 = some (.struct (Try.prog.fieldsOf 24)) := by kernel_rfl
  have hp : Try.prog.stoodInHeld 24 = false := by kernel_rfl
  rw [run_neq_struct, show (10000 : Nat) = 9999 + 1 from rfl, run_equalIn_agg w 9999 24 _ _ hS hp]
  simp only [Program.fieldsOf, Try.underlying24]
  go_simp
theorem wfs119 : wfs ⟨#[119]⟩ := by show _ ≤ _; decide
theorem nm119 : nmB ⟨#[119]⟩ = true := by decide +kernel
def Z47 : Array Value := #[.int .i64 0, .string ⟨#[]⟩, .int .u64 0, .int .i64 0, .int .i64 0, .int .i64 0, .slice none 0 0, .slice none 0 0, .slice none 0 0, .int .i64 0, .string ⟨#[]⟩, .string ⟨#[]⟩, .int .i64 0, .int .i64 0, .int .i64 0, .int .i64 0, .slice none 0 0, .slice none 0 0, .slice none 0 0, .int .i64 0, .string ⟨#[]⟩, .int .i64 0, .int .i64 0, .slice none 0 0, .slice none 0 0, .int .i64 0, .bool false, .int .i64 0, .int .i64 0, .int .i64 0, .int .i64 0, .int .i64 0, .slice none 0 0, .slice none 0 0, .int .i64 0, .string ⟨#[]⟩, .int .i64 0, .int .i64 0, .slice none 0 0, .int .i64 0, .int .i64 0, .int .i64 0, .slice none 0 0, .int .i64 0, .int .i64 0, .slice none 0 0, .slice none 0 0]
theorem run_alloc46 {ev : Operand → Value} {o : Oper} (ho : o.op = .alloc 46) (w : World) : (execOp ev o).run Try.prog w = .ok (.value (.pointer (some ⟨w.heap.size, 0, none⟩))) (w.alloc (.cells Z47 46)) := by
  unfold execOp
  simp only [ho]
  unfold Z47
  go_simp
theorem wpl_allocg {P : Program} {ops : Array Oper} {rest : List Oper} {o : Oper} {a : Act} {w : World} {Q : Exit → Act → World → Prop} {t : TypeId} {zs : Array Value} (hw : Region.wanted o (yielded ops a.tmps) = true)
    (hr : (execOp a.eval o).run P w = .ok (.value (.pointer (some ⟨w.heap.size, 0, none⟩))) (w.alloc (.cells zs t)))
    (h : wpList P ops Q rest (a.put o.dst (.pointer (some ⟨w.heap.size, 0, none⟩))) (w.alloc (.cells zs t))) : wpList P ops Q (o :: rest) a w := by
  refine wpList_step fun K hK => ?_
  rw [if_pos hw]
  unfold Oper.wp
  rw [hr]
  exact hK _ _ h
theorem wpl_storeg {P : Program} {ops : Array Oper} {rest : List Oper} {o : Oper} {a : Act} {w : World} {Q : Exit → Act → World → Prop} {g : Nat} {t : TypeId} {zs cs : Array Value} (hk : Bk w g t zs) (hl : zs.size = cs.size) (hw : Region.wanted o (yielded ops a.tmps) = true) (hd : o.dst = none) (ty : TypeId) (x y : Operand) (ho : o.op = .store ty x y)
    (hx : a.eval x = .pointer (some ⟨g, 0, none⟩)) (hy : a.eval y = .agg cs) (hi : (P.info? ty).map (·.size) = some cs.size) (h1 : cs.toList.all (·.oneCell') = true)
    (h : wpList P ops Q rest a (w.setCells g 0 cs.toList)) : wpList P ops Q (o :: rest) a w := by
  refine wpList_step fun K hK => ?_
  rw [if_pos hw]
  unfold Oper.wp
  rw [run_store_op hk hl ty x y ho hx hy hi h1]
  simp only [Oper.upon, hd]
  exact hK _ _ h
set_option maxHeartbeats 2000000 in
set_option maxRecDepth 100000 in
theorem podsMade_any (x : Wl) (now : Int) (w : World) (ho : x.Ok w) (wn : wfi .i64 now) :
    Calls Try.prog 4 #[.agg x.cells.toArray, .int .i64 now] w fun e w' => e = .returned (.bool true) ∧ Below w.heap.size w w' := by
  have C1 := Lib.hid (fun w1 (hb : Below w.heap.size w w1) => few_any (Ob.mk 0 ⟨#[119]⟩ 0 x .zero .zero .zero .zero) w1 (obWl_ok wf0 (by show _ ≤ _; decide) (wlOk_below ho hb)))
  have C2 := Lib.hid (fun w1 (hb : Below w.heap.size w w1) => right_0 ⟨#[119]⟩ 0 x w1 (wlOk_below ho hb) (by show _ ≤ _; decide))
  have C3 := Lib.hid (fun (hwt : wantsB x.cpu x.mem x.labels.l x.select.l x.tolerate.l x.warm = true) w1 (hb : Below w.heap.size w w1) => object_any (Ob.mk 0 ⟨#[119]⟩ 0 x .zero .zero .zero .zero) w1 ⟨by show (0 : Int) ≤ 0; decide, by show (0 : Int) ≤ 4; decide⟩ (obWl_ok wf0 (by show _ ≤ _; decide) (wlOk_below ho hb)) ⟨by show (1 : Nat) ≤ 255; decide, fun _ => wants_s hwt, fun h => absurd h (by simp), fun h => absurd h (by simp), fun h => absurd h (by simp), fun h => absurd h (by simp)⟩)
  have C4 := Lib.hid (fun w1 (hb : Below w.heap.size w w1) => made_any x ⟨#[119]⟩ now w1 (wlOk_below ho hb))
  have HO := Lib.hid ho
  have hsl : (∃ A n c, x.labels.v = .slice A n c) ∧ (∃ A n c, x.select.v = .slice A n c) ∧ (∃ A n c, x.tolerate.v = .slice A n c) := by
    obtain ⟨A, c, e, _⟩ := id ho.labels.1
    obtain ⟨A', c', e', _⟩ := id ho.select.1
    obtain ⟨A'', c'', e'', _⟩ := id ho.tolerate.1
    exact ⟨⟨_, _, _, e⟩, ⟨_, _, _, e'⟩, ⟨_, _, _, e''⟩⟩
  clear ho
  obtain ⟨replicas, cpu, mem, ⟨lv, ll⟩, ⟨sv, sl⟩, ⟨tv, tl⟩, warm⟩ := x
  obtain ⟨⟨A1, n1, c1, e1⟩, ⟨A2, n2, c2, e2⟩, ⟨A3, n3, c3, e3⟩⟩ := hsl
  simp only at e1 e2 e3
  subst e1; subst e2; subst e3
  have hL0 : (Ob.mk 0 ⟨#[119]⟩ 0 ⟨replicas, cpu, mem, ⟨.slice A1 n1 c1, ll⟩, ⟨.slice A2 n2 c2, sl⟩, ⟨.slice A3 n3 c3, tl⟩, warm⟩ .zero .zero .zero .zero).cells.toArray = #[.int .i64 0, .string ⟨#[119]⟩, .int .u64 0, .int .i64 replicas, .int .i64 cpu, .int .i64 mem, .slice A1 n1 c1, .slice A2 n2 c2, .slice A3 n3 c3, .int .i64 warm, .string ⟨#[]⟩, .string ⟨#[]⟩, .int .i64 0, .int .i64 0, .int .i64 0, .int .i64 0, .slice none 0 0, .slice none 0 0, .slice none 0 0, .int .i64 0, .string ⟨#[]⟩, .int .i64 0, .int .i64 0, .slice none 0 0, .slice none 0 0, .int .i64 0, .bool false, .int .i64 0, .int .i64 0, .int .i64 0, .int .i64 0, .int .i64 0, .slice none 0 0, .slice none 0 0, .int .i64 0, .string ⟨#[]⟩, .int .i64 0, .int .i64 0, .slice none 0 0, .int .i64 0, .int .i64 0, .int .i64 0, .slice none 0 0, .int .i64 0, .int .i64 0, .slice none 0 0, .slice none 0 0] := rfl
  obtain ⟨was, hwas⟩ : ∃ s, s = objB (Ob.mk 0 ⟨#[119]⟩ 0 ⟨replicas, cpu, mem, ⟨.slice A1 n1 c1, ll⟩, ⟨.slice A2 n2 c2, sl⟩, ⟨.slice A3 n3 c3, tl⟩, warm⟩ .zero .zero .zero .zero) := ⟨_, rfl⟩
  rw [← hwas] at C3
  clear hwas
  rw [hL0] at C1 C2 C3
  clear hL0
  simp only at C1 C2 C3 C4
  obtain ⟨L, hL⟩ : ∃ L : Array Value, L = #[.int .i64 0, .string ⟨#[119]⟩, .int .u64 0, .int .i64 replicas, .int .i64 cpu, .int .i64 mem, .slice A1 n1 c1, .slice A2 n2 c2, .slice A3 n3 c3, .int .i64 warm, .string ⟨#[]⟩, .string ⟨#[]⟩, .int .i64 0, .int .i64 0, .int .i64 0, .int .i64 0, .slice none 0 0, .slice none 0 0, .slice none 0 0, .int .i64 0, .string ⟨#[]⟩, .int .i64 0, .int .i64 0, .slice none 0 0, .slice none 0 0, .int .i64 0, .bool false, .int .i64 0, .int .i64 0, .int .i64 0, .int .i64 0, .int .i64 0, .slice none 0 0, .slice none 0 0, .int .i64 0, .string ⟨#[]⟩, .int .i64 0, .int .i64 0, .slice none 0 0, .int .i64 0, .int .i64 0, .int .i64 0, .slice none 0 0, .int .i64 0, .int .i64 0, .slice none 0 0, .slice none 0 0] := ⟨_, rfl⟩
  rw [← hL] at C1 C2 C3
  have hsz : L.size = 47 := by rw [hL]; rfl
  obtain ⟨Wa, hWa⟩ : ∃ Wa, Wa = w.alloc (.cells #[.int .i64 replicas, .int .i64 cpu, .int .i64 mem, .slice A1 n1 c1, .slice A2 n2 c2, .slice A3 n3 c3, .int .i64 warm] 33) := ⟨_, rfl⟩
  have hBa : Below w.heap.size w Wa := by rw [hWa]; exact below_al _ _
  have hka : Bk Wa w.heap.size 33 #[.int .i64 replicas, .int .i64 cpu, .int .i64 mem, .slice A1 n1 c1, .slice A2 n2 c2, .slice A3 n3 c3, .int .i64 warm] := by rw [hWa]; exact Bk.new w _ _
  have hz1 : w.heap.size + 1 = Wa.heap.size := by rw [hWa]; simp
  have h1L : L.toList.all (·.oneCell') = true := by rw [hL]; rfl
  have hzl : Z47.size = L.size := hsz.symm
  have hkz := Bk.new Wa 46 Z47
  obtain ⟨Wb, hWb⟩ : ∃ Wb, Wb = (Wa.alloc (.cells Z47 46)).setCells Wa.heap.size 0 L.toList := ⟨_, rfl⟩
  have hBb : Below w.heap.size w Wb := by rw [hWb]; exact below_setCells _ _ (hBa.alloc hBa.size _) hBa.size
  have hkb : Bk Wb Wa.heap.size 46 L := by rw [hWb]; exact setCells_whole hkz hzl
  have hkaB : Bk Wb w.heap.size 33 #[.int .i64 replicas, .int .i64 cpu, .int .i64 mem, .slice A1 n1 c1, .slice A2 n2 c2, .slice A3 n3 c3, .int .i64 warm] := by rw [hWb]; exact setCells_far (Nat.ne_of_lt hka.lt) _ _ (hka.alloc _)
  have hS : ∃ fs, Try.prog.underlying 46 = some (.struct fs) := ⟨_, Try.underlying46⟩
  obtain ⟨fs, hfs⟩ := hS
  have HF := Lib.hid hfs
  have HI : Hid ((Try.prog.info? 46).map (·.size) = some L.size) := Lib.hid (by rw [hsz]; kernel_rfl)
  clear hfs hsz
  simp only [Wl.cells]
  have HE := Lib.hid (And.intro hL (And.intro hWa (And.intro hWb hz1)))
  clear hL hWa hWb hz1
  have ka0 : Wa.cell? ⟨w.heap.size, 0, none⟩ = some (.int .i64 replicas) := hka.cell 0
  have ka1 : Wa.cell? ⟨w.heap.size, 1, none⟩ = some (.int .i64 cpu) := hka.cell 1
  have ka2 : Wa.cell? ⟨w.heap.size, 2, none⟩ = some (.int .i64 mem) := hka.cell 2
  have ka3 : Wa.cell? ⟨w.heap.size, 3, none⟩ = some (.slice A1 n1 c1) := hka.cell 3
  have ka4 : Wa.cell? ⟨w.heap.size, 4, none⟩ = some (.slice A2 n2 c2) := hka.cell 4
  have ka5 : Wa.cell? ⟨w.heap.size, 5, none⟩ = some (.slice A3 n3 c3) := hka.cell 5
  have ka6 : Wa.cell? ⟨w.heap.size, 6, none⟩ = some (.int .i64 warm) := hka.cell 6
  go_enter Try.func4, Try.ntmps4
  go_upto_region 1 with fail
  rw [← HE.out.2.1]
  go_wp2_with (first | (refine wpl_allocg rfl (run_alloc46 rfl _) ?_) | (refine wpl_storeg hkz hzl rfl rfl 46 (.tmp 5) (.tmp 13) rfl rfl (by rw [HE.out.1]; rfl) HI.out h1L ?_))
  rw [← HE.out.2.2.1]
  clear HE hka hBa hkz hzl h1L ka0 ka1 ka2 ka3 ka4 ka5 ka6
  generalize Value.agg #[.int .i64 0, .string ⟨#[119]⟩, .int .u64 0, .int .i64 replicas, .int .i64 cpu, .int .i64 mem, .slice A1 n1 c1, .slice A2 n2 c2, .slice A3 n3 c3, .int .i64 warm, .string ⟨#[]⟩, .string ⟨#[]⟩, .int .i64 0, .int .i64 0, .int .i64 0, .int .i64 0, .slice none 0 0, .slice none 0 0, .slice none 0 0, .int .i64 0, .string ⟨#[]⟩, .int .i64 0, .int .i64 0, .slice none 0 0, .slice none 0 0, .int .i64 0, .bool false, .int .i64 0, .int .i64 0, .int .i64 0, .int .i64 0, .int .i64 0, .slice none 0 0, .slice none 0 0, .int .i64 0, .string ⟨#[]⟩, .int .i64 0, .int .i64 0, .slice none 0 0, .int .i64 0, .int .i64 0, .int .i64 0, .slice none 0 0, .int .i64 0, .int .i64 0, .slice none 0 0, .slice none 0 0] = P13
  generalize Wa.heap.size = gO at hkb ⊢
  refine (lives14_any _).mono ?_
  rintro e w1 ⟨rfl, hb1⟩
  have hk1 := hkb.below' hb1
  have hw1 := hkaB.below' hb1
  have hB1 := below_tr hBb hb1
  clear hb1 hkb hkaB hBb
  go_wp2_with (refine wpl_loadg hk1 rfl 46 (.tmp 5) rfl rfl _ HF.out rfl HI.out ?_)
  refine (C1.out _ hB1).mono ?_
  rintro e w2 ⟨⟨b, rfl⟩, hb2⟩
  have hk2 := hk1.below' hb2
  have hw2 := hw1.below' hb2
  have hB2 := below_tr hB1 hb2
  clear hb2 hk1 hw1 hB1 C1
  cases b
  · go_wp2_with fail
    refine (lives14_any _).mono ?_
    rintro e w9 ⟨rfl, hb9⟩
    go_wp2_with fail
    go_ret
    exact ⟨rfl, below_tr hB2 hb9⟩
  · go_wp2_with (refine wpl_loadg hk2 rfl 46 (.tmp 5) rfl rfl _ HF.out rfl HI.out ?_)
    refine (C2.out _ hB2).mono ?_
    rintro e w3 ⟨z, rfl, hz, hb3⟩
    have hk3 := hk2.below' hb3
    have hw3 := hw2.below' hb3
    have hB3 := below_tr hB2 hb3
    clear hb3 hk2 hw2 hB2 C2
    by_cases hzz : z = 0
    · subst hzz
      have hwt := Lib.hid (hz rfl)
      clear hz
      have hnow : now < 0 ∨ (0 ≤ now ∧ 4611686018427387904 < now) ∨ (0 ≤ now ∧ now ≤ 4611686018427387904) := by omega
      rcases hnow with h1 | ⟨h1, h2⟩ | ⟨h1, h2⟩
      · go_wp2_with fail
        refine (lives14_any _).mono ?_
        rintro e w9 ⟨rfl, hb9⟩
        go_wp2_with fail
        go_ret
        exact ⟨rfl, below_tr hB3 hb9⟩
      · go_wp2_with fail
        refine (lives14_any _).mono ?_
        rintro e w9 ⟨rfl, hb9⟩
        go_wp2_with fail
        go_ret
        exact ⟨rfl, below_tr hB3 hb9⟩
      · go_wp2_with (refine wpl_loadg hk3 rfl 46 (.tmp 5) rfl rfl _ HF.out rfl HI.out ?_)
        refine (C3.out hwt.out _ hB3).mono ?_
        rintro e w4 ⟨rfl, hb4⟩
        have hk4 := hk3.below' hb4
        have hw4 := hw3.below' hb4
        have hB4 := below_tr hB3 hb4
        clear hb4 hk3 hw3 hB3
        have hw4_0 := hw4.cell 0
        have hw4_1 := hw4.cell 1
        have hw4_2 := hw4.cell 2
        have hw4_3 := hw4.cell 3
        have hw4_4 := hw4.cell 4
        have hw4_5 := hw4.cell 5
        have hw4_6 := hw4.cell 6
        go_wp2_with fail
        refine (C4.out _ hB4).mono ?_
        rintro e w5 ⟨v1, v2, v3, rfl, O1, O2, O3, hb5⟩
        have S1 := Sl.of_own O1
        have S2 := Sl.of_own O2
        have S3 := Sl.of_own O3
        obtain ⟨B1, d1, rfl, _⟩ := id S1
        obtain ⟨B2, d2, rfl, _⟩ := id S2
        obtain ⟨B3, d3, rfl, _⟩ := id S3
        have hPd : Pd.Ok w5 ⟨⟨#[119]⟩, ⟨#[]⟩, 0, now, cpu, mem, ⟨.slice B1 ll.length d1, ll⟩, ⟨.slice B2 sl.length d2, sl⟩, ⟨.slice B3 tl.length d3, tl⟩, warm⟩ :=
          ⟨wfs119, wfs0, wf0, wn, HO.out.cpu, HO.out.mem, ⟨S1, HO.out.labels.2⟩, ⟨S2, HO.out.select.2⟩, ⟨S3, HO.out.tolerate.2⟩, HO.out.warm⟩
        have C5 := Lib.hid (fun w6 (hb : Below w5.heap.size w5 w6) => right_1 ⟨#[119, 45, 48, 48, 48, 48]⟩ 0 ⟨⟨#[119]⟩, ⟨#[]⟩, 0, now, cpu, mem, ⟨.slice B1 ll.length d1, ll⟩, ⟨.slice B2 sl.length d2, sl⟩, ⟨.slice B3 tl.length d3, tl⟩, warm⟩ w6 (hPd.below hb) (by show _ ≤ _; decide) (by decide +kernel) rfl rfl nm119 ⟨h1, h2⟩ hwt.out)
        have C6 := Lib.hid (fun w6 (hb : Below w5.heap.size w5 w6) => same5_like ⟨.slice B1 ll.length d1, ll⟩ ⟨.slice A1 n1 c1, ll⟩ w6 (hPd.labels.below hb) (HO.out.labels.below (below_tr (below_tr hB4 hb5) hb)) rfl)
        have C7 := Lib.hid (fun w6 (hb : Below w5.heap.size w5 w6) => same5_like ⟨.slice B3 tl.length d3, tl⟩ ⟨.slice A3 n3 c3, tl⟩ w6 (hPd.tolerate.below hb) (HO.out.tolerate.below (below_tr (below_tr hB4 hb5) hb)) rfl)
        have hn2 : n2 = sl.length := by obtain ⟨_, _, e, _⟩ := id HO.out.select.1; injection e
        have hLX : (Ob.mk 1 ⟨#[119, 45, 48, 48, 48, 48]⟩ 0 .zero ⟨⟨#[119]⟩, ⟨#[]⟩, 0, now, cpu, mem, ⟨.slice B1 ll.length d1, ll⟩, ⟨.slice B2 sl.length d2, sl⟩, ⟨.slice B3 tl.length d3, tl⟩, warm⟩ .zero .zero .zero).cells.toArray = #[.int .i64 1, .string ⟨#[119, 45, 48, 48, 48, 48]⟩, .int .u64 0, .int .i64 0, .int .i64 0, .int .i64 0, .slice none 0 0, .slice none 0 0, .slice none 0 0, .int .i64 0, .string ⟨#[119]⟩, .string ⟨#[]⟩, .int .i64 0, .int .i64 now, .int .i64 cpu, .int .i64 mem, .slice B1 ll.length d1, .slice B2 sl.length d2, .slice B3 tl.length d3, .int .i64 warm, .string ⟨#[]⟩, .int .i64 0, .int .i64 0, .slice none 0 0, .slice none 0 0, .int .i64 0, .bool false, .int .i64 0, .int .i64 0, .int .i64 0, .int .i64 0, .int .i64 0, .slice none 0 0, .slice none 0 0, .int .i64 0, .string ⟨#[]⟩, .int .i64 0, .int .i64 0, .slice none 0 0, .int .i64 0, .int .i64 0, .int .i64 0, .slice none 0 0, .int .i64 0, .int .i64 0, .slice none 0 0, .slice none 0 0] := rfl
        rw [hLX] at C5
        clear hLX
        obtain ⟨X, hX⟩ : ∃ X : Array Value, X = #[.int .i64 1, .string ⟨#[119, 45, 48, 48, 48, 48]⟩, .int .u64 0, .int .i64 0, .int .i64 0, .int .i64 0, .slice none 0 0, .slice none 0 0, .slice none 0 0, .int .i64 0, .string ⟨#[119]⟩, .string ⟨#[]⟩, .int .i64 0, .int .i64 now, .int .i64 cpu, .int .i64 mem, .slice B1 ll.length d1, .slice B2 sl.length d2, .slice B3 tl.length d3, .int .i64 warm, .string ⟨#[]⟩, .int .i64 0, .int .i64 0, .slice none 0 0, .slice none 0 0, .int .i64 0, .bool false, .int .i64 0, .int .i64 0, .int .i64 0, .int .i64 0, .int .i64 0, .slice none 0 0, .slice none 0 0, .int .i64 0, .string ⟨#[]⟩, .int .i64 0, .int .i64 0, .slice none 0 0, .int .i64 0, .int .i64 0, .int .i64 0, .slice none 0 0, .int .i64 0, .int .i64 0, .slice none 0 0, .slice none 0 0] := ⟨_, rfl⟩
        rw [← hX] at C5
        have hXz : Z47.size = X.size := by rw [hX]; rfl
        have hXi : Hid ((Try.prog.info? 46).map (·.size) = some X.size) := Lib.hid (by rw [hX]; kernel_rfl)
        have h1X : X.toList.all (·.oneCell') = true := by rw [hX]; rfl
        have HX := Lib.hid hX
        clear hX S1 S2 S3
        simp only [Pd.cells]
        go_upto_region 6 with fail
        subst hn2
        have hk6 := Bk.new w5 28 #[.string ⟨#[119]⟩, .string ⟨#[]⟩, .int .i64 0, .int .i64 now, .int .i64 cpu, .int .i64 mem, .slice B1 ll.length d1, .slice B2 sl.length d2, .slice B3 tl.length d3, .int .i64 warm]
        have hB65 := below_al w5 (.cells #[.string ⟨#[119]⟩, .string ⟨#[]⟩, .int .i64 0, .int .i64 now, .int .i64 cpu, .int .i64 mem, .slice B1 ll.length d1, .slice B2 sl.length d2, .slice B3 tl.length d3, .int .i64 warm] 28)
        generalize w5.alloc (.cells #[.string ⟨#[119]⟩, .string ⟨#[]⟩, .int .i64 0, .int .i64 now, .int .i64 cpu, .int .i64 mem, .slice B1 ll.length d1, .slice B2 sl.length d2, .slice B3 tl.length d3, .int .i64 warm] 28) = w6 at hk6 hB65 ⊢
        have p6_0 := hk6.cell 0
        have p6_1 := hk6.cell 1
        have p6_2 := hk6.cell 2
        have p6_3 := hk6.cell 3
        have p6_4 := hk6.cell 4
        have p6_5 := hk6.cell 5
        have p6_6 := hk6.cell 6
        have p6_7 := hk6.cell 7
        have p6_8 := hk6.cell 8
        have p6_9 := hk6.cell 9
        have hkz := Bk.new w6 46 Z47
        go_upto_region 7 with (first | (refine wpl_allocg rfl (run_alloc46 rfl _) ?_) | (refine wpl_storeg hkz hXz rfl rfl 46 (.tmp 8) (.tmp 41) rfl rfl (by rw [HX.out]; rfl) hXi.out h1X ?_))
        have hk7x := setCells_whole hkz hXz
        have hk7p := setCells_far (Nat.ne_of_lt hk6.lt) X.toList 0 (hk6.alloc (.cells Z47 46))
        have hB75 := below_setCells X.toList 0 (hB65.alloc hB65.size (.cells Z47 46)) hB65.size
        generalize (w6.alloc (.cells Z47 46)).setCells w6.heap.size 0 X.toList = w7 at hk7x hk7p hB75 ⊢
        clear hkz hXz h1X p6_0 p6_1 p6_2 p6_3 p6_4 p6_5 p6_6 p6_7 p6_8 p6_9
        generalize Value.agg #[.int .i64 1, .string ⟨#[119, 45, 48, 48, 48, 48]⟩, .int .u64 0, .int .i64 0, .int .i64 0, .int .i64 0, .slice none 0 0, .slice none 0 0, .slice none 0 0, .int .i64 0, .string ⟨#[119]⟩, .string ⟨#[]⟩, .int .i64 0, .int .i64 now, .int .i64 cpu, .int .i64 mem, .slice B1 ll.length d1, .slice B2 sl.length d2, .slice B3 tl.length d3, .int .i64 warm, .string ⟨#[]⟩, .int .i64 0, .int .i64 0, .slice none 0 0, .slice none 0 0, .int .i64 0, .bool false, .int .i64 0, .int .i64 0, .int .i64 0, .int .i64 0, .int .i64 0, .slice none 0 0, .slice none 0 0, .int .i64 0, .string ⟨#[]⟩, .int .i64 0, .int .i64 0, .slice none 0 0, .int .i64 0, .int .i64 0, .int .i64 0, .slice none 0 0, .int .i64 0, .int .i64 0, .slice none 0 0, .slice none 0 0] = P41
        generalize Value.agg #[.string ⟨#[119]⟩, .string ⟨#[]⟩, .int .i64 0, .int .i64 now, .int .i64 cpu, .int .i64 mem, .slice B1 ll.length d1, .slice B2 sl.length d2, .slice B3 tl.length d3, .int .i64 warm] = P39
        have hB7 := below_tr (below_tr hB4 hb5) hB75
        go_wp2_with (refine wpl_loadg hk7x rfl 46 (.tmp 8) rfl rfl _ HF.out rfl hXi.out ?_)
        refine (C5.out _ hB75).mono ?_
        rintro e w8 ⟨rfl, hb8⟩
        have hB85 := below_tr hB75 hb8
        have hk8 := hk7p.below' hb8
        have hv8 := (hw4.below' hb5).below' hB85
        have p8_0 := hk8.cell 0
        have p8_1 := hk8.cell 1
        have p8_2 := hk8.cell 2
        have p8_3 := hk8.cell 3
        have p8_4 := hk8.cell 4
        have p8_5 := hk8.cell 5
        have p8_6 := hk8.cell 6
        have p8_7 := hk8.cell 7
        have p8_8 := hk8.cell 8
        have p8_9 := hk8.cell 9
        have v8_0 := hv8.cell 0
        have v8_1 := hv8.cell 1
        have v8_2 := hv8.cell 2
        have v8_3 := hv8.cell 3
        have v8_4 := hv8.cell 4
        have v8_5 := hv8.cell 5
        have v8_6 := hv8.cell 6
        have hq := fun w1 => neq_res cpu mem w1
        have hgd : Try.prog.eqGuardType Try.prog.depth 24 = false := by kernel_rfl
        go_wp2_with fail
        refine (C6.out _ hB85).mono ?_
        rintro e w9 ⟨rfl, hb9⟩
        have hB95 := below_tr hB85 hb9
        have hk9 := hk8.below' hb9
        have hv9 := hv8.below' hb9
        clear p8_0 p8_1 p8_2 p8_3 p8_4 p8_5 p8_6 p8_7 p8_8 p8_9 v8_0 v8_1 v8_2 v8_3 v8_4 v8_5 v8_6
        have p9_0 := hk9.cell 0
        have p9_1 := hk9.cell 1
        have p9_2 := hk9.cell 2
        have p9_3 := hk9.cell 3
        have p9_4 := hk9.cell 4
        have p9_5 := hk9.cell 5
        have p9_6 := hk9.cell 6
        have p9_7 := hk9.cell 7
        have p9_8 := hk9.cell 8
        have p9_9 := hk9.cell 9
        have v9_0 := hv9.cell 0
        have v9_1 := hv9.cell 1
        have v9_2 := hv9.cell 2
        have v9_3 := hv9.cell 3
        have v9_4 := hv9.cell 4
        have v9_5 := hv9.cell 5
        have v9_6 := hv9.cell 6
        go_wp2_with fail
        refine (C7.out _ hB95).mono ?_
        rintro e wA ⟨rfl, hbA⟩
        have hBA5 := below_tr hB95 hbA
        have hkA := hk9.below' hbA
        clear p9_0 p9_1 p9_2 p9_3 p9_4 p9_5 p9_6 p9_7 p9_8 p9_9 v9_0 v9_1 v9_2 v9_3 v9_4 v9_5 v9_6 hk8 hk9 hv8 hv9 hb9 hbA hb8 hq hgd hB75 hB85 hB95 C5 C6 C7
        go_upto_region 9 with fail
        have hg1 : ∀ ad, B1 = some ad → ad.block < w5.heap.size := fun ad e => by subst e; exact (O1.lt ad.block rfl).2
        have hg2 : ∀ ad, B2 = some ad → ad.block < w5.heap.size := fun ad e => by subst e; exact (O2.lt ad.block rfl).2
        have hg3 : ∀ ad, B3 = some ad → ad.block < w5.heap.size := fun ad e => by subst e; exact (O3.lt ad.block rfl).2
        have E1 : OwnE wA w4.heap.size 58 2 (.slice B1 ll.length d1) ll.length := ⟨_, own_below O1 hBA5⟩
        have E2 : OwnE wA w4.heap.size 60 3 (.slice B2 sl.length d2) sl.length := ⟨_, own_below O2 hBA5⟩
        have E3 : OwnE wA w4.heap.size 58 2 (.slice B3 tl.length d3) tl.length := ⟨_, own_below O3 hBA5⟩
        have hBA4 := below_tr hb5 hBA5
        have hgP : w4.heap.size ≤ w5.heap.size := hb5.size
        have m1 : ll.length ≤ 8 := by
          have h := hwt.out
          unfold wantsB rtB at h
          simp only [Bool.and_eq_true, decide_eq_true_eq] at h
          exact h.2.1.2
        have m2 : sl.length ≤ 8 := by
          have h := hwt.out
          unfold wantsB aksB at h
          simp only [Bool.and_eq_true, decide_eq_true_eq] at h
          exact h.2.2.1.2
        have m3 : tl.length ≤ 8 := by
          have h := hwt.out
          unfold wantsB rtB at h
          simp only [Bool.and_eq_true, decide_eq_true_eq] at h
          exact h.2.2.2.1.2
        generalize w5.heap.size = gP at hkA hgP hg1 hg2 hg3 ⊢
        generalize w6.heap.size = gX
        clear O1 O2 O3 hBA5 hb5 hPd hk6 hk7x hk7p hB65 hB7 hXi hw4 C4
        obtain ⟨N1, hN1⟩ : ∃ n, n = ll.length := ⟨_, rfl⟩
        obtain ⟨N2, hN2⟩ : ∃ n, n = sl.length := ⟨_, rfl⟩
        obtain ⟨N3, hN3⟩ : ∃ n, n = tl.length := ⟨_, rfl⟩
        rw [← hN1] at E1 m1
        rw [← hN2] at E2 m2
        rw [← hN3] at E3 m3
        simp only [← hN1, ← hN2, ← hN3] at hkA ⊢
        clear hN1 hN2 hN3
        have pa1 := hkA.cell 6
        go_wp2_with fail
        go_loopw [98, 9] (fun i p wr => ∃ k : Nat, k ≤ N1 ∧ i = .int .i64 k ∧ Below w4.heap.size w4 wr ∧ Bk wr gP 28 #[.string ⟨#[119]⟩, .string ⟨#[]⟩, .int .i64 0, .int .i64 now, .int .i64 cpu, .int .i64 mem, .slice B1 N1 d1, .slice B2 N2 d2, .slice B3 N3 d3, .int .i64 warm] ∧ OwnE wr w4.heap.size 58 2 (.slice B1 N1 d1) N1 ∧ OwnE wr w4.heap.size 60 3 (.slice B2 N2 d2) N2 ∧ OwnE wr w4.heap.size 58 2 (.slice B3 N3 d3) N3) (fun i p wr => N1 - (intOf i).toNat)
        case atStart => exact ⟨0, Nat.zero_le _, rfl, hBA4, hkA, E1, E2, E3⟩
        case round =>
          obtain ⟨k, hk, rfl, hBr, hkr, F1, F2, F3⟩ := hrel
          clear hkA E1 E2 E3 pa1 hBA4
          by_cases hlt : k < N1
          · obtain ⟨g, cap, u, e, hbg, hc, hf⟩ := F1.cell (k * 2) (by omega)
            injection e with e1 e2 e3
            subst e1
            have hgg := hg1 _ rfl
            have pr := hkr.cell 6
            have hadd : (⟨g, 0, none⟩ : Addr).add (k * 2) = ⟨g, k * 2, none⟩ := by rw [add_lit]; simp
            go_wp2_with fail
            exact ⟨⟨k + 1, by omega, by go_num, hBr.setCell (p := ⟨g, k * 2, none⟩) hbg _, hkr.far (p := ⟨g, k * 2, none⟩) (Nat.ne_of_gt hgg) _, F1.set _ _, F2.set _ _, F3.set _ _⟩, by simp [intOf]; omega⟩
          · have pr1 := hkr.cell 6
            have hkA := hkr
            have E1 := F1
            have E2 := F2
            have E3 := F3
            have hBA4 := hBr
            clear hkr F1 F2 F3 hBr
            have pa2 := hkA.cell 7
            go_wp2_with fail
            go_loopw [110, 10] (fun i p wr => ∃ k : Nat, k ≤ N2 ∧ i = .int .i64 k ∧ Below w4.heap.size w4 wr ∧ Bk wr gP 28 #[.string ⟨#[119]⟩, .string ⟨#[]⟩, .int .i64 0, .int .i64 now, .int .i64 cpu, .int .i64 mem, .slice B1 N1 d1, .slice B2 N2 d2, .slice B3 N3 d3, .int .i64 warm] ∧ OwnE wr w4.heap.size 58 2 (.slice B1 N1 d1) N1 ∧ OwnE wr w4.heap.size 60 3 (.slice B2 N2 d2) N2 ∧ OwnE wr w4.heap.size 58 2 (.slice B3 N3 d3) N3) (fun i p wr => N2 - (intOf i).toNat)
            case atStart => exact ⟨0, Nat.zero_le _, rfl, hBA4, hkA, E1, E2, E3⟩
            case round =>
              obtain ⟨k, hk, rfl, hBr, hkr, F1, F2, F3⟩ := hrel
              clear hkA E1 E2 E3 pa2 hBA4
              by_cases hlt : k < N2
              · obtain ⟨g, cap, u, e, hbg, hc, hf⟩ := F2.cell (k * 3) (by omega)
                injection e with e1 e2 e3
                subst e1
                have hgg := hg2 _ rfl
                have pr := hkr.cell 7
                have hadd : (⟨g, 0, none⟩ : Addr).add (k * 3) = ⟨g, k * 3, none⟩ := by rw [add_lit]; simp
                go_wp2_with fail
                exact ⟨⟨k + 1, by omega, by go_num, hBr.setCell (p := ⟨g, k * 3, none⟩) hbg _, hkr.far (p := ⟨g, k * 3, none⟩) (Nat.ne_of_gt hgg) _, F1.set _ _, F2.set _ _, F3.set _ _⟩, by simp [intOf]; omega⟩
              · have pr2 := hkr.cell 7
                have hkA := hkr
                have E1 := F1
                have E2 := F2
                have E3 := F3
                have hBA4 := hBr
                clear hkr F1 F2 F3 hBr
                have pa3 := hkA.cell 8
                go_wp2_with fail
                go_loopw [122, 11] (fun i p wr => ∃ k : Nat, k ≤ N3 ∧ i = .int .i64 k ∧ Below w4.heap.size w4 wr ∧ Bk wr gP 28 #[.string ⟨#[119]⟩, .string ⟨#[]⟩, .int .i64 0, .int .i64 now, .int .i64 cpu, .int .i64 mem, .slice B1 N1 d1, .slice B2 N2 d2, .slice B3 N3 d3, .int .i64 warm] ∧ OwnE wr w4.heap.size 58 2 (.slice B1 N1 d1) N1 ∧ OwnE wr w4.heap.size 60 3 (.slice B2 N2 d2) N2 ∧ OwnE wr w4.heap.size 58 2 (.slice B3 N3 d3) N3) (fun i p wr => N3 - (intOf i).toNat)
                case atStart => exact ⟨0, Nat.zero_le _, rfl, hBA4, hkA, E1, E2, E3⟩
                case round =>
                  obtain ⟨k, hk, rfl, hBr, hkr, F1, F2, F3⟩ := hrel
                  clear hkA E1 E2 E3 pa3 hBA4
                  by_cases hlt : k < N3
                  · obtain ⟨g, cap, u, e, hbg, hc, hf⟩ := F3.cell (k * 2) (by omega)
                    injection e with e1 e2 e3
                    subst e1
                    have hgg := hg3 _ rfl
                    have pr := hkr.cell 8
                    have hadd : (⟨g, 0, none⟩ : Addr).add (k * 2) = ⟨g, k * 2, none⟩ := by rw [add_lit]; simp
                    go_wp2_with fail
                    exact ⟨⟨k + 1, by omega, by go_num, hBr.setCell (p := ⟨g, k * 2, none⟩) hbg _, hkr.far (p := ⟨g, k * 2, none⟩) (Nat.ne_of_gt hgg) _, F1.set _ _, F2.set _ _, F3.set _ _⟩, by simp [intOf]; omega⟩
                  · have pr3 := hkr.cell 8
                    have hkA := hkr
                    have E1 := F1
                    have E2 := F2
                    have E3 := F3
                    have hBA4 := hBr
                    clear hkr F1 F2 F3 hBr
                    have hkO := hk4.below' hBA4
                    have hBF := below_tr hB4 hBA4
                    clear hkA E1 E2 E3 pr3 hBA4
                    go_wp2_with (refine wpl_loadg hkO rfl 46 (.tmp 5) rfl rfl _ HF.out rfl HI.out ?_)
                    refine (C3.out hwt.out _ hBF).mono ?_
                    rintro e wZ ⟨rfl, hbZ⟩
                    go_wp2_with fail
                    go_ret
                    exact ⟨by simp, below_tr hBF hbZ⟩
    · have hz0 : (z == 0) = false := by simpa using hzz
      have hz1 : (z != 0) = true := by simp [bne, hz0]
      clear hz hzz
      go_wp2_with fail
      refine (lives14_any _).mono ?_
      rintro e w9 ⟨rfl, hb9⟩
      go_wp2_with fail
      go_ret
      exact ⟨rfl, below_tr hB3 hb9⟩
theorem podsMade_walk (a : Array Value) (now : Int) (w : World) (h : Mem.Ok Try.prog w 9 33 (Value.agg a).cells.toList) (wn : (Lit.int .i64 now).wf = true) :
    Calls Try.prog 4 #[.agg a, .int .i64 now] w fun e w' => e = .returned (.bool true) ∧ Below w.heap.size w w' := by
  obtain ⟨x, e, hx⟩ := wl_of (n := 5) h
  have e' : a = x.cells.toArray := arr_of e
  subst e'
  exact podsMade_any x now w hx wn
end Go.Proofs.Ytilmmmokobhnfaa
