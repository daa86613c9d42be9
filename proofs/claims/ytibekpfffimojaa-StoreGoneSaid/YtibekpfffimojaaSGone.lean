/-
  The walk of trimtablaw08.StoreGone.
-/
import Derived.Test.YtibekpfffimojaaLv8
import Derived.Test.YtibekpfffimojaaVe
import Derived.Test.YtibekpfffimojaaSince
namespace Go.Proofs.Ytibekpfffimojaa
open Go.RowKit Go.Proofs.Mem
set_option linter.unusedVariables false
set_option linter.unusedSimpArgs false
theorem emp_one' : EmpOne := fun name v w => empties_one name v w
def N2 : ByteArray := ⟨#[110, 50]⟩
theorem n2_nm : nmB N2 = true := by decide +kernel
theorem n2_len : N2.size ≤ maxLen := by decide +kernel
/-- The events that are kept: versions that rise by one, up to now. -/
def EvOk (now : Nat) (evs : List Ev) : Prop := evs.length = min now 1024 ∧ ∀ i x, evs[i]? = some x → x.ver + evs.length = now + 1 + i
theorem evok_nil : EvOk 0 [] := ⟨rfl, fun i x h => by simp at h⟩
theorem evok_len {now : Nat} {evs : List Ev} (h : EvOk now evs) : evs.length ≤ 1024 := by rw [h.1]; exact Nat.min_le_right _ _
theorem evok_next {now : Nat} {evs : List Ev} (h : EvOk now evs) (x : Ev) (hx : x.ver = now + 1) : EvOk (now + 1) (nextEvs evs x) := by
  obtain ⟨h1, h2⟩ := h
  unfold nextEvs
  split
  next hl =>
    have hn : evs.length = now := by omega
    refine ⟨by simp; omega, fun i y hy => ?_⟩
    rw [List.getElem?_append] at hy
    split at hy
    next hi =>
      have := h2 i y hy
      simp; omega
    next hi =>
      have hi0 : i = evs.length := by
        have := (List.getElem?_eq_some_iff.1 hy).1
        simp at this; omega
      subst hi0
      simp at hy
      subst hy
      simp; omega
  next hl =>
    have hn : evs.length = 1024 := by omega
    refine ⟨by simp; omega, fun i y hy => ?_⟩
    rw [List.getElem?_append] at hy
    split at hy
    next hi =>
      rw [List.getElem?_drop] at hy
      have := h2 (1 + i) y hy
      simp; omega
    next hi =>
      simp at hi
      have hi0 : i = evs.length - 1 := by
        have := (List.getElem?_eq_some_iff.1 hy).1
        simp at this; omega
      subst hi0
      simp at hy
      subst hy
      simp; omega
/-- The map of the one object. -/
def DOne (v : Nat) : DataW Value := .map [(kOf 2 N1, .held (.agg (NdL N1 v)))]
theorem done_new (v : Nat) : (DataW.map [] : DataW Value).put (kOf 2 N1) (.held (.agg (NdL N1 v))) = DOne v := rfl
theorem done_put (u v : Nat) : (DOne u).put (kOf 2 N1) (.held (.agg (NdL N1 v))) = DOne v := by
  have h : (kOf 2 N1).sameKey (kOf 2 N1) = true := by decide +kernel
  simp [DOne, DataW.put, h, DataW.insert]
theorem done_has (v : Nat) : Maps.has (DOne v) (kOf 2 N1) = true := by
  have h : (kOf 2 N1).sameKey (kOf 2 N1) = true := by decide +kernel
  simp [DOne, Maps.has, h]
theorem done_has2 (v : Nat) : Maps.has (DOne v) (kOf 2 N2) = false := by
  have h : (kOf 2 N1).sameKey (kOf 2 N2) = false := by decide +kernel
  simp [DOne, Maps.has, h]
theorem done_size (v : Nat) : Maps.size (DOne v) = 1 := rfl
theorem done_val (v : Nat) (z : Value) : valAt (DOne v) (kOf 2 N1) z = .agg (NdL N1 v) := by
  have h : (kOf 2 N1).sameKey (kOf 2 N1) = true := by decide +kernel
  simp [DOne, valAt, DataW.atKey, h]
/-- Behind so many changes; y: the version in the law's own object. -/
def GoneI (w wr : World) (p b o now y : Nat) : Prop := ∃ ev evs, StIs wr p b now (DOne now) 1 now ev evs ∧ EvOk now evs ∧ Bk wr o 44 (NdL N1 y) ∧ some o ≠ ev.ownBlock ∧ o ≠ p ∧ o ≠ b ∧ w.heap.size ≤ o ∧ w.heap.size ≤ b ∧ Below w.heap.size w wr
theorem gone_set {w wr : World} {p b o now y : Nat} (h : GoneI w wr p b o now y) (v : Nat) : GoneI w (wr.setCell ⟨o, 2, none⟩ (.int .u64 v)) p b o now v := by
  obtain ⟨ev, evs, h1, h2, h3, h4, h5, h6, h7, h8, h9⟩ := h
  refine ⟨ev, evs, ⟨h1.1, h1.2.1.far (by simp; omega) _, h1.2.2.1.setCell (by simp; omega) _, own_block h1.2.2.2 fun g hg => Below.heap_setCell _ _ _ _ (fun e => h4 (by rw [hg, e]))⟩, h2, ?_, h4, h5, h6, h7, h8, h9.setCell (p := ⟨o, 2, none⟩) h7 _⟩
  have := h3.set 2 (.int .u64 v)
  exact this
theorem gone_update {w wr : World} {p b o now : Nat} (h : GoneI w wr p b o now now) (hn : now < 100000) :
    Calls Try.prog 8 #[.pointer (some ⟨p, 0, none⟩), .agg (NdL N1 now)] wr fun e w' => e = .returned (.tuple #[.int .u64 ((now + 1 : Nat) : Int), .int .i64 0]) ∧ GoneI w w' p b o (now + 1) now := by
  obtain ⟨ev, evs, h1, h2, h3, h4, h5, h6, h7, h8, h9⟩ := h
  refine (nd_update emp_one' wr p b now (DOne now) 1 now ev evs h1 (by unfold maxLen; omega) N1 n1_nm n1_len now (NdL N1 now) (NdL.nil N1 now).1 now rfl (done_val now _) (by omega) (evok_len h2)).mono ?_
  intro e w' hC
  unfold UpdateSt at hC
  rw [if_neg (by rw [done_has]; simp), if_pos rfl] at hC
  obtain ⟨ev1, rfl, hS, hT, hE⟩ := hC
  have hol := h3.lt
  refine ⟨rfl, ev1, _, ?_, evok_next h2 ⟨1, 2, N1, now + 1⟩ rfl, hT.bk h3 h5 h6 h4, ?_, h5, h6, h7, h8, h9.trans (hT.low h9.size (by have := h1.1; omega) h8 fun g hg => by have := h1.evGe hg; have := h1.1; omega)⟩
  · rw [NdL.put, done_put] at hS
    exact hS
  · intro e
    rcases hE with h | ⟨g, h1', h2'⟩
    · exact h4 (by rw [← h, e])
    · rw [h2'] at e; injection e with e; omega
set_option maxHeartbeats 4000000 in
set_option maxRecDepth 100000 in
theorem storeGone_any (k : Nat) (hk : k ≤ 255) (w : World) : Calls Try.prog 4 #[.int .u8 k] w fun e w' => e = .returned (.bool true) ∧ Below w.heap.size w w' := by
  have HU := Lib.hid (Try.underlying44)
  have g1 : (k : Int) ≤ 255 := by omega
  clear hk
  go_enter Try.func4, Try.ntmps4
  go_wp2_with fail
  refine (lives8_any emp_one' w).mono ?_
  rintro e w0 ⟨rfl, b0⟩
  go_wp2_with fail
  refine (snew_any 1 w0 (by omega) (by omega)).mono ?_
  rintro e w1 ⟨p, b, rfl, hb, hS1, B1⟩
  have HS1 := Lib.hid hS1
  clear hS1
  have B1' := below_tr b0 B1
  have hwb : w.heap.size ≤ b := Nat.le_trans b0.size hb
  clear B1 hb b0
  go_wp2_with fail
  refine (node8_any N1 w1).mono ?_
  rintro e w2 ⟨rfl, b2⟩
  have HS2 := Lib.hid (HS1.out.below b2)
  have B2 := below_tr B1' b2
  clear b2 B1' HS1
  obtain ⟨L, hLe⟩ : ∃ L, L = NdL N1 0 := ⟨_, rfl⟩
  rw [← hLe]
  have hL : Is47 L := by rw [hLe]; exact (NdL.nil N1 0).1
  have HL := Lib.hid (And.intro hL hLe)
  clear hL hLe
  have hzz : Z47.size = L.size := HL.out.1.1.symm
  have kz := Bk.new w2 44 Z47
  have ko := setCells_whole kz hzz
  have B3 := below_setCells (g := w2.heap.size) L.toList 0 (B2.alloc B2.size (.cells Z47 44)) B2.size
  have HS3 := Lib.hid (HS2.out.below (below_setCells (g := w2.heap.size) L.toList 0 (below_al w2 (.cells Z47 44)) (Nat.le_refl _)))
  go_wp2_with (first | (refine wpl_allocg rfl (run_alloc47 rfl _) ?_) | (refine wpl_storeg kz hzz rfl rfl 44 (.tmp 5) (.tmp 20) rfl rfl rfl (info47 HL.out.1) HL.out.1.2 ?_) | (refine wpl_loadg ko rfl 44 (.tmp 5) rfl rfl _ HU.out rfl (info47 HL.out.1) ?_))
  generalize hw3 : (w2.alloc (.cells Z47 44)).setCells w2.heap.size 0 L.toList = w3 at ko B3 HS3 ⊢
  have hp2 := HS2.out.2.1.lt
  have hb2 := HS2.out.2.2.1.lt
  have ho2 := B2.size
  obtain ⟨o, ho⟩ : ∃ o, o = w2.heap.size := ⟨_, rfl⟩
  rw [← ho] at ko hp2 hb2 ho2 ⊢
  clear hw3 kz B2 HS2 ho w2
  rw [show Value.agg L = .agg (NdL N1 0) from by rw [HL.out.2]]
  refine (nd_create emp_one' w3 p b 0 (.map []) 1 0 (.slice none 0 0) [] HS3.out (by unfold maxLen; omega) N1 n1_nm n1_len 0 Z47 z47_is (valAt_empty _ _) (by omega) (by simp)).mono ?_
  intro e w4 hC
  unfold CreateSt at hC
  rw [if_neg (by simp [Maps.has]), if_neg (by simp [Maps.size])] at hC
  obtain ⟨ev1, rfl, hS4, hT4, hE4⟩ := hC
  have hG : GoneI w w4 p b o 1 0 := by
    have ko4 := hT4.bk ko (by omega) (by omega) (by simp [Value.ownBlock])
    rw [HL.out.2] at ko4
    have hol := ko.lt
    rw [NdL.put, done_new] at hS4
    refine ⟨ev1, _, hS4, evok_next evok_nil ⟨0, 2, N1, 1⟩ rfl, ko4, ?_, by omega, by omega, ho2, hwb, B3.trans (hT4.low B3.size (by have := HS3.out.1; omega) hwb (by simp [Value.ownBlock]))⟩
    intro e
    rcases hE4 with h | ⟨g, h1, h2⟩
    · rw [h] at e; simp [Value.ownBlock] at e
    · rw [h2] at e; injection e with e; omega
  have HG := Lib.hid hG
  clear hG hS4 hT4 hE4 ko B3 HS3 hp2 hb2 ho2 hwb hzz HL w3
  go_wp2_with fail
  go_loopw [6, 30] (fun v i wr => ∃ j : Nat, j ≤ 1100 + k ∧ i = .int .i64 j ∧ v = .int .u64 ((j + 1 : Nat) : Int) ∧ ∃ y, GoneI w wr p b o (j + 1) y) (fun v i wr => 1100 + k - (intOf i).toNat)
  case atStart => exact ⟨0, by omega, rfl, rfl, 0, HG.out⟩
  case round =>
    clear HG
    obtain ⟨j, hj, rfl, rfl, y, hG⟩ := hrel
    by_cases hlt : j < 1100 + k
    · have hG2 := gone_set hG (j + 1)
      have kf := (hG.choose_spec.choose_spec.2.2.1).frozen 2
      have kc := (hG.choose_spec.choose_spec.2.2.1).cell 2
      rw [show (NdL N1 y)[2]? = some (.int .u64 y) from rfl] at kc
      have HG2 := Lib.hid hG2
      have k2 := hG2.choose_spec.choose_spec.2.2.1
      clear hG hG2
      have h1 : Is47 (NdL N1 (j + 1 : Nat)) := (NdL.nil N1 _).1
      have g2 : (j : Int) < 1100 + (k : Int) := by omega
      go_wp2_with (refine wpl_loadg (cs := NdL N1 (j + 1 : Nat)) k2 rfl 44 (.tmp 5) rfl rfl _ HU.out rfl (info47 h1) ?_)
      have C := gone_update HG2.out (by omega)
      simp only [Int.natCast_add, Int.cast_ofNat_Int] at C
      refine C.mono ?_
      rintro e w5 ⟨rfl, hG3⟩
      have HG3 := Lib.hid hG3
      clear hG3 C k2 HG2 kf kc
      go_wp2_with fail
      refine ⟨⟨j + 1, by omega, by go_num, by go_num, j + 1, HG3.out⟩, by simp [intOf]; omega⟩
    · obtain rfl : j = 1100 + k := by omega
      obtain ⟨U, hU⟩ : ∃ U, U = 76 + k := ⟨_, rfl⟩
      have e1 : 1100 + k + 1 = U + 1025 := by omega
      rw [e1] at hG ⊢
      have g2 : ((1100 + k : Nat) : Int) = 1100 + (k : Int) := by omega
      have g3 : (U : Int) = 76 + (k : Int) := by omega
      obtain ⟨ev, evs, h1, h2, h3, h4, h5, h6, h7, h8, h9⟩ := hG
      have hel : evs.length = 1024 := by rw [h2.1]; omega
      obtain ⟨x, xs, rfl⟩ : ∃ x xs, evs = x :: xs := by
        cases evs with
        | nil => simp at hel
        | cons x xs => exact ⟨x, xs, rfl⟩
      have hxv : x.ver = U + 2 := by
        have := h2.2 0 x rfl
        omega
      have HS := Lib.hid h1
      have HE := Lib.hid (evok_len h2)
      have HEL := Lib.hid hel
      have HXV := Lib.hid hxv
      have HU2 := Lib.hid hU
      clear h1 h2 h3 h4 h5 h6 h7 h8 hU hj hlt hel hxv
      go_wp2_with fail
      have E1 : (76 + (k : Int) + 1025 - 1024) = ((77 + k : Nat) : Int) := by omega
      rw [E1]
      refine (since_ok wr p b _ _ 1 _ ev _ HS.out (by omega) HE.out (77 + k) 0 (by have := HU2.out; omega) (by have := HU2.out; have := HEL.out; omega)).mono ?_
      rintro e w5 ⟨v', rfl, hO, b5⟩
      have hm : U + 1025 - (77 + k) = 1024 := by have := HU2.out; omega
      rw [hm] at hO
      obtain ⟨g, cap, rfl, hg, hgl⟩ := hO.form (by omega)
      have hc3 := hO.cells (g := g) rfl 3 (.int .u64 x.ver) (by simp [Ev.cells])
      rw [HXV.out, Addr.add_lit] at hc3
      have B5 := below_tr h9 b5
      have HS5 := Lib.hid (HS.out.below b5)
      clear hO hg HS h9 b5 E1
      have hlU := HU2.out
      go_wp2_with fail
      have C := since_gone w5 p b _ _ 1 _ ev _ HS5.out (by omega) HE.out (76 + k) (by omega) (by have := HEL.out; omega)
      simp only [Int.natCast_add, Int.cast_ofNat_Int] at C
      refine C.mono ?_
      rintro e w6 ⟨rfl, hw6⟩
      subst hw6
      clear C
      go_wp2_with fail
      refine (node8_any N2 _).mono ?_
      rintro e w7 ⟨rfl, b7⟩
      have HS7 := Lib.hid (HS5.out.below b7)
      have B7 := below_tr B5 b7
      have hc7 := (b7.cell (p := ⟨g, 0 + 3, none⟩) hgl).trans hc3
      clear b7 B5 HS5 hc3 hgl
      go_wp2_with fail
      refine (nd_create emp_one' w7 p b _ _ 1 _ ev _ HS7.out (by unfold maxLen; omega) N2 n2_nm n2_len 0 Z47 z47_is (valAt_not (done_has2 _) _) (by omega) HE.out).mono ?_
      intro e w8 hC
      unfold CreateSt at hC
      rw [if_neg (by rw [done_has2]; simp), if_pos (by rw [done_size]; decide)] at hC
      obtain ⟨rfl, b8⟩ := hC
      have B8 := below_tr B7 b8
      have hc8 := keep_cell b8 hc7
      simp only [Int.natCast_add, Int.cast_ofNat_Int, Nat.zero_add] at hc8
      clear hc7 B7 HS7 b8
      have E3 : 76 + (k : Int) + 1025 - 1023 = 76 + (k : Int) + 2 := by omega
      have E4 : 76 + (k : Int) + 1025 = 1101 + (k : Int) := by omega
      go_wp2_with fail
      go_ret
      exact ⟨rfl, B8⟩
theorem storeGone_walk (k : Int) (hk : (Lit.int .u8 k).wf = true) (w : World) : Calls Try.prog 4 #[.int .u8 k] w fun e w' => e = .returned (.bool true) ∧ Below w.heap.size w w' := by
  have h : 0 ≤ k ∧ k ≤ 255 := by simp [Lit.wf, IntKind.min, IntKind.max, IntKind.signed, IntKind.bits] at hk; omega
  obtain ⟨n, rfl⟩ := Int.eq_ofNat_of_zero_le h.1
  exact storeGone_any n (by omega) w
end Go.Proofs.Ytibekpfffimojaa
