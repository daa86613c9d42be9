/-
  The walk of trimtablaw08.lives.
-/
import Derived.Test.YtibekpfffimojaaNd8
import Derived.Test.YtibekpfffimojaaNoteF
namespace Go.Proofs.Ytibekpfffimojaa
open Go.RowKit Go.Proofs.Mem
set_option linter.unusedVariables false
set_option linter.unusedSimpArgs false
def N1 : ByteArray := ⟨#[110, 49]⟩
theorem n1_nm : nmB N1 = true := by decide +kernel
theorem n1_len : N1.size ≤ maxLen := by decide +kernel
def EmpOne : Prop := ∀ (name : ByteArray) (v : Int) (w : World), Calls Try.prog 34 #[.agg (NdL name v)] w fun e w' => e = .returned (.bool true) ∧ Below w.heap.size w w'
theorem nd_default (name : ByteArray) (v : Int) (w1 : World) : Calls Try.prog 18 #[.agg (NdL name v)] w1 fun e w' => e = .returned (.agg (NdL name v)) ∧ Below w1.heap.size w1 w' :=
  vdefault_nil w1 _ (NdL.nil name v) 2 rfl (by decide) (by decide)
section
variable (hE : EmpOne)
include hE
theorem nd_check (name : ByteArray) (hnm : nmB name = true) (v : Int) (w1 : World) : Calls Try.prog 19 #[.agg (NdL name v)] w1 fun e w' => e = .returned (.int .i64 0) ∧ Below w1.heap.size w1 w' :=
  check_one w1 _ (NdL.nil name v).1 name hnm rfl rfl (NdL.node name v) (hE name v)
/-- Create of a small node. -/
theorem nd_create (w : World) (p b n : Nat) (D : DataW Value) (most : Int) (now : Nat) (ev : Value) (evs : List Ev) (h : StIs w p b n D most now ev evs) (hN : n < maxLen) (name : ByteArray) (hnm : nmB name = true) (hs : name.size ≤ maxLen) (v : Nat)
    (Lw : Array Value) (hLw : Is47 Lw) (hval : valAt D (kOf 2 name) (.agg Z47) = .agg Lw) (hnow : now < 1000000000) (hl : evs.length ≤ 1024) :
    Calls Try.prog 7 #[.pointer (some ⟨p, 0, none⟩), .agg (NdL name v)] w (CreateSt p b n D most now ev evs 2 name (NdL name v) w) :=
  create_any w p b n D most now ev evs h hN 2 name v (NdL name v) (NdL name v) (NdL.nil name v).1 (NdL.obL name v) rfl hs Lw hLw hval (fun w1 _ => nd_default name v w1) (fun w1 _ => nd_check hE name hnm v w1) (fun w1 h1 => note_any w1 p b n D most now ev evs h1 hnow hl 0 2 name)
theorem nd_update (w : World) (p b n : Nat) (D : DataW Value) (most : Int) (now : Nat) (ev : Value) (evs : List Ev) (h : StIs w p b n D most now ev evs) (hN : n < maxLen) (name : ByteArray) (hnm : nmB name = true) (hs : name.size ≤ maxLen) (v : Nat)
    (Lw : Array Value) (hLw : Is47 Lw) (vw : Nat) (hvw : Lw[2]? = some (.int .u64 vw)) (hval : valAt D (kOf 2 name) (.agg Z47) = .agg Lw) (hnow : now < 1000000000) (hl : evs.length ≤ 1024) :
    Calls Try.prog 8 #[.pointer (some ⟨p, 0, none⟩), .agg (NdL name v)] w (UpdateSt p b n D most now ev evs 2 name (NdL name v) vw v w) :=
  update_any w p b n D most now ev evs h hN 2 name v (NdL name v) (NdL name v) (NdL.nil name v).1 (NdL.obL name v) rfl hs Lw hLw vw hvw hval (fun w1 _ => nd_default name v w1) (fun w1 _ => nd_check hE name hnm v w1) (fun w1 h1 => note_any w1 p b n D most now ev evs h1 hnow hl 1 2 name)
set_option maxHeartbeats 4000000 in
set_option maxRecDepth 100000 in
theorem lives8_any (w : World) : Calls Try.prog 5 #[] w fun e w' => e = .returned (.bool true) ∧ Below w.heap.size w w' := by
  have hE' := Lib.hid hE
  clear hE
  have HU := Lib.hid (Try.underlying44)
  go_enter Try.func5, Try.ntmps5
  go_wp2_with fail
  refine (snew_any 9 w (by omega) (by omega)).mono ?_
  rintro e w1 ⟨p, b, rfl, hb, hS1, B1⟩
  have HS1 := Lib.hid hS1
  clear hS1
  go_wp2_with fail
  refine (node8_any N1 w1).mono ?_
  rintro e w2 ⟨rfl, b2⟩
  have HS2 := Lib.hid (HS1.out.below b2)
  have B2 := below_tr B1 b2
  clear b2 B1 HS1
  obtain ⟨L, hLe⟩ : ∃ L, L = NdL N1 0 := ⟨_, rfl⟩
  rw [← hLe]
  have hL : Is47 L := by rw [hLe]; exact (NdL.nil N1 0).1
  have HL := Lib.hid (And.intro hL hLe)
  clear hL hLe
  have hzz : Z47.size = L.size := HL.out.1.1.symm
  have kz := Bk.new w2 44 Z47
  have ko := setCells_whole kz hzz
  have B3 := below_setCells (g := w2.heap.size) L.toList 0 (B2.alloc B2.size (.cells Z47 44)) B2.size
  have HS3 := Lib.hid (HS2.out.below (below_setCells (g := w2.heap.size) L.toList 0 (below_al w2 (.cells Z47 44)) (Nat.le_refl _)))
  go_wp2_with (first | (refine wpl_allocg rfl (run_alloc47 rfl _) ?_) | (refine wpl_storeg kz hzz rfl rfl 44 (.tmp 3) (.tmp 14) rfl rfl rfl (info47 HL.out.1) HL.out.1.2 ?_) | (refine wpl_loadg ko rfl 44 (.tmp 3) rfl rfl _ HU.out rfl (info47 HL.out.1) ?_))
  generalize hw3 : (w2.alloc (.cells Z47 44)).setCells w2.heap.size 0 L.toList = w3 at ko B3 HS3 ⊢
  have hp2 := HS2.out.2.1.lt
  have hb2 := HS2.out.2.2.1.lt
  obtain ⟨o, ho⟩ : ∃ o, o = w2.heap.size := ⟨_, rfl⟩
  rw [← ho] at ko hp2 hb2 ⊢
  clear hw3 kz B2 HS2 ho w2
  rw [show Value.agg L = .agg (NdL N1 0) from by rw [HL.out.2]]
  refine (nd_create hE'.out w3 p b 0 (.map []) 9 0 (.slice none 0 0) [] HS3.out (by unfold maxLen; omega) N1 n1_nm n1_len 0 Z47 z47_is (valAt_empty _ _) (by omega) (by simp)).mono ?_
  intro e w4 hC
  unfold CreateSt at hC
  rw [if_neg (by simp [Maps.has]), if_neg (by simp [Maps.size])] at hC
  obtain ⟨ev1, rfl, hS4, hT4, hE4⟩ := hC
  have ko4 := hT4.bk ko (by omega) (by omega) (by simp [Value.ownBlock])
  rw [HL.out.2] at ko4
  have hbp := HS3.out.1
  have B4 := B3.trans (hT4.low B3.size (by omega) hb (by simp [Value.ownBlock]))
  have hol := ko.lt
  have hne1 : some o ≠ ev1.ownBlock := fun e => by
    rcases hE4 with h | ⟨g, h1, h2⟩
    · rw [h] at e; simp [Value.ownBlock] at e
    · rw [h2] at e; injection e with e; omega
  have hge1 : ∀ g, ev1.ownBlock = some g → w.heap.size ≤ g := fun g hg => by
    have := hS4.evGe hg
    omega
  have HS4 := Lib.hid hS4
  clear ko B3 HS3 hT4 hE4 hS4 hol w3
  have o2 := ko4.cell 2
  rw [show (NdL N1 0)[2]? = some (.int .u64 0) from rfl] at o2
  have f2 := ko4.frozen 2
  have ko5 := ko4.set 2 (.int .u64 1)
  rw [show (NdL N1 0).setIfInBounds 2 (.int .u64 1) = NdL N1 1 from rfl] at ko5
  have HS5 := Lib.hid (show StIs (w4.setCell ⟨o, 2, none⟩ (.int .u64 1)) p b 1 _ 9 1 ev1 _ from ⟨HS4.out.1, HS4.out.2.1.far (by simp; omega) _, HS4.out.2.2.1.setCell (by simp; omega) _, own_block HS4.out.2.2.2 fun g hg => Below.heap_setCell _ _ _ _ (fun e => hne1 (by rw [hg, e]))⟩)
  have B5 := B4.setCell (p := ⟨o, 2, none⟩) (by simp; omega) (.int .u64 1)
  simp only [Nat.zero_add]
  rw [show (((1 : Nat) : Int)) = 1 from rfl]
  have h1 : Is47 (NdL N1 1) := (NdL.nil N1 1).1
  go_wp2_with (refine wpl_loadg (cs := NdL N1 1) ko5 rfl 44 (.tmp 3) rfl rfl _ HU.out rfl (info47 h1) ?_)
  generalize w4.setCell ⟨o, 2, none⟩ (.int .u64 1) = w5 at ko5 HS5 B5 ⊢
  clear ko4 B4 HS4 o2 f2 w4
  have hi0 : Maps.IsMap (.map [] : DataW Value) := ⟨[], rfl⟩
  have hkl := keyLit_kOf 2 N1
  refine (nd_update hE'.out w5 p b 1 _ 9 1 ev1 _ HS5.out (by unfold maxLen; omega) N1 n1_nm n1_len 1 (NdL N1 1) h1 1 rfl (valAt_put_same hi0 hkl _ _) (by omega) (nextEvs_len _ (by simp))).mono ?_
  intro e w6 hC
  unfold UpdateSt at hC
  rw [if_neg (by rw [Maps.has_put_same hi0 hkl]; simp), if_pos rfl] at hC
  obtain ⟨ev2, rfl, hS6, hT6, hE6⟩ := hC
  have ko6 := hT6.bk ko5 (by omega) (by omega) hne1
  have B6 := B5.trans (hT6.low B5.size (by omega) hb hge1)
  have HS6 := Lib.hid hS6
  have hi1 := HS5.out.2.2.1.isMap
  clear hS6 hT6 hE6 ko5 B5 HS5 w5
  go_wp2_with (refine wpl_loadg (cs := NdL N1 1) ko6 rfl 44 (.tmp 3) rfl rfl _ HU.out rfl (info47 h1) ?_)
  refine (nd_update hE'.out w6 p b 2 _ 9 2 ev2 _ HS6.out (by unfold maxLen; omega) N1 n1_nm n1_len 1 (NdL N1 2) (NdL.nil N1 2).1 2 rfl (valAt_put_same hi1 hkl _ _) (by omega) (nextEvs_len _ (nextEvs_len _ (by simp)))).mono ?_
  intro e w7 hC
  unfold UpdateSt at hC
  rw [if_neg (by rw [Maps.has_put_same hi1 hkl]; simp), if_neg (by omega)] at hC
  obtain ⟨rfl, b7⟩ := hC
  have B7 := below_tr B6 b7
  clear b7 B6 HS6 ko6
  go_wp2_with fail
  go_ret
  exact ⟨rfl, B7⟩
end
end Go.Proofs.Ytibekpfffimojaa
