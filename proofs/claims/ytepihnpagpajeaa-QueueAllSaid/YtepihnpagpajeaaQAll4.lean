/-
  The walk of the statement QueueAll.
-/
import Derived.Test.YtepihnpagpajeaaQAll3
namespace Go.Proofs.Ytepihnpagpajeaa
open Go.RowKit Go.Proofs.Mem
open Go.Maps (Keyed string_keyed)
open Go.WideMaps (keyOf_string_mk)
set_option linter.unusedVariables false
set_option linter.unusedSimpArgs false
theorem zeroBoolQ (w : World) : (zeroValue 4).run Try.prog w = .ok (.bool false) w := by kernel_rfl
def u16v (z : Nat) : Value := .int .u16 z
theorem qall_long (n c : Nat) (A : Option Addr) (w : World) (hn : n ≤ maxLen) (h : 60 < n) :
    Calls Try.prog 5 #[.slice A n c] w fun e w' => e = .returned (.bool true) ∧ Below w.heap.size w w' := by
  unfold maxLen at hn
  have h1 : (60 : Int) < n := by omega
  clear h
  go_enter Try.func5, Try.ntmps5
  go_wp2_with fail
  refine (lives37_any w).mono ?_
  rintro e w1 ⟨rfl, hB1⟩
  go_wp2_with fail
  refine (lives37_any w1).mono ?_
  rintro e w2 ⟨rfl, hB2⟩
  go_wp2_with fail
  go_ret
  exact ⟨rfl, hB1.trans (hB2.mono hB1.size)⟩
/-- What the first loop keeps. -/
def L1 (l : List Nat) (q b f : Nat) (w : World) (i : Nat) (wr : World) : Prop :=
  ∃ D, QIs wr q b f i 0 1 1 100 D (.map []) ∧ Rq l D (List.range i) ∧ Below w.heap.size w wr
/-- What the second loop keeps. -/
def L2 (l : List Nat) (q b f s : Nat) (w : World) (r last : Nat) (wr : World) : Prop :=
  ∃ D F S rem n m ns, QIs wr q b f n m 1 1 100 D F ∧ Rq l D rem ∧ rem.length + r = l.length ∧ Mp Try.prog wr 9 s ns S ∧ Sn S rem ∧ (∀ j ∈ rem, last ≤ l.getD j 0) ∧ n ≤ 60 + r ∧ ns ≤ r ∧ Below w.heap.size w wr
theorem QIs.other {w w' : World} {q b f s n m : Nat} {c0 c1 c2 : Int} {D F : DataW Value} (h : QIs w q b f n m c0 c1 c2 D F) (hg : w.grownBy w' (some s)) (h1 : q < s) : QIs w' q b f n m c0 c1 c2 D F :=
  ⟨h.1, h.2.1, h.2.2.1.grown hg (by simp; omega), h.2.2.2.1.grown hg (by have := h.1; have := h.2.1; simp; omega), h.2.2.2.2.grown hg (by have := h.2.1; simp; omega)⟩
set_option maxHeartbeats 4000000 in
set_option maxRecDepth 100000 in
theorem qall_main (l : List Nat) (c : Nat) (A : Option Addr) (w : World) (hl : l.length ≤ 60) (hb : ∀ z ∈ l, z ≤ 65535) (hS : Sl w 1 (.slice A l.length c) l.length (l.map u16v)) :
    Calls Try.prog 5 #[.slice A l.length c] w fun e w' => e = .returned (.bool true) ∧ Below w.heap.size w w' := by
  have hl' : (l.length : Int) ≤ 60 := by omega
  have HS := Lib.hid hS
  have HL := Lib.hid hl
  have HBd := Lib.hid hb
  clear hS hl hb
  go_enter Try.func5, Try.ntmps5
  go_wp2_with fail
  refine (lives37_any w).mono ?_
  rintro e w1 ⟨rfl, hB1⟩
  go_wp2_with fail
  refine (qnew_any 1 1 100 w1 (by omega) (by omega) (by omega) (by omega) (by omega)).mono ?_
  rintro e w2 ⟨q, b, f, rfl, hb0, hQ2, hB2⟩
  have hbw : w.heap.size ≤ b := Nat.le_trans hB1.size hb0
  have hBa := hB1.trans (hB2.mono hB1.size)
  have hbf := hQ2.1
  have hfq := hQ2.2.1
  go_wp2_with fail
  go_loopw [32] (fun v wr => ∃ i : Nat, i ≤ l.length ∧ v = .int .i64 i ∧ L1 l q b f w i wr) (fun v _ => l.length - (intOf v).toNat)
  case atStart => exact ⟨0, Nat.zero_le _, rfl, _, hQ2, rq_start l, hBa⟩
  case round =>
    clear hQ2 hBa hB1 hB2
    obtain ⟨i, hi, rfl, D, hQ, hR, hB⟩ := hrel
    by_cases hlt : i < l.length
    · obtain ⟨a, ha⟩ : ∃ a, l[i]? = some a := ⟨l[i], by simp [hlt]⟩
      have hab := HBd.out a (List.mem_of_getElem? ha)
      obtain ⟨ad, rfl, hadl, hc⟩ := (HS.out.below hB).cell1 (k := i) (u := u16v a) (by rw [List.getElem?_map, ha]; rfl)
      unfold u16v at hc
      have g1 : (a : Int) ≤ 65535 := by omega
      have hz := hQ.2.2.2.1.size_le
      have hno : Maps.has D (.string (nmL i)) = false := by
        cases h : Maps.has D (.string (nmL i))
        · rfl
        · obtain ⟨j, hj, e⟩ := (hR.1 _).1 h
          simp at hj
          have := HL.out
          have := nm_inj (by omega) (by omega) e
          omega
      have hR2 := Lib.hid (rq_add HL.out hQ.2.2.2.1.isMap hR ha)
      have CN := Lib.hid (fun w1 => name_any i w1 (by have := HL.out; omega))
      have CA := Lib.hid (fun (w1 : World) (h1 : QIs w1 q b f i 0 1 1 100 D (.map [])) => add_fresh w1 q b f i 0 1 1 100 D (.map []) h1 (nmS i) (nmS_name i (by have := HL.out; omega)) (nmS_size i) (a : Int) (by omega) (by omega) hno (by have := HL.out; omega) (by have := HL.out; unfold maxLen; omega))
      have HQ := Lib.hid hQ
      have HB := Lib.hid hB
      clear hQ hR hB ha hab hadl hno hz
      go_wp2_with fail
      refine (CN.out wr).mono ?_
      rintro e w3 ⟨rfl, hB3⟩
      have hQ3 := HQ.out.below hB3
      go_wp2_with fail
      refine (CA.out w3 hQ3).mono ?_
      rintro e w4 ⟨rfl, hQ4, hT4⟩
      have hBb := HB.out.trans (hB3.mono HB.out.size)
      have hBc := hBb.trans (hT4.low hBb.size hbw (by omega))
      clear hQ3 hB3 hT4 hBb
      go_wp2_with fail
      go_roundw
      case rel => exact ⟨i + 1, by omega, by go_num, _, hQ4, hR2.out, hBc⟩
      case measure => simp [intOf]; omega
    · have hil : i = l.length := by omega
      subst hil
      have hmm := @run_makeMap Try.prog
      have HQ := Lib.hid hQ
      have HR := Lib.hid hR
      have HB := Lib.hid hB
      clear hQ hR hB
      go_wp2_with fail
      clear hmm
      have hqs := HQ.out.2.2.1.lt
      have hQs := HQ.out.below ((Below.refl wr.heap.size wr).alloc (Nat.le_refl _) (.map #[] 0))
      have hBs := HB.out.alloc HB.out.size (.map #[] 0)
      have hMs := Mp.made wr Try.prog 9
      have hws := HB.out.size
      generalize wr.alloc (.map #[] 0) = w5 at hQs hBs hMs ⊢
      generalize wr.heap.size = s at hqs hMs hws ⊢
      clear HQ HB
      go_loopw [8, 49] (fun v8 v wr => ∃ r last : Nat, r ≤ l.length ∧ v = .int .i64 r ∧ last ≤ 65535 ∧ v8 = .int .u16 last ∧ L2 l q b f s w r last wr) (fun _ v _ => l.length - (intOf v).toNat)
      case atStart =>
        exact ⟨0, 0, Nat.zero_le _, rfl, by omega, rfl, D, .map [], .map [], List.range l.length, _, _, _, hQs, HR.out, by simp, hMs, fun j hj => rfl, fun j hj => Nat.zero_le _, by have := HL.out; omega, Nat.le_refl _, hBs⟩
      case round =>
        clear hQs hBs hMs HR D
        obtain ⟨r, last, hr, rfl, hla, rfl, D, F, S, rem, n, m, ns, hQ, hR, hrem, hM, hSn, hlast, hnb, hnsb, hB⟩ := hrel
        have HQ := Lib.hid hQ
        have HR := Lib.hid hR
        have HM := Lib.hid hM
        have HSn := Lib.hid hSn
        have HLa := Lib.hid hlast
        have HRem := Lib.hid hrem
        have HB := Lib.hid hB
        have HNb := Lib.hid (And.intro hnb hnsb)
        have hl6 := HL.out
        have CNx := Lib.hid (next_any wr q b f n m 1 1 100 D F hQ (atf l) hR.2.1 (by have := hQ.2.2.2.1.size_le; omega) 1048576 (fun k hk => by
          obtain ⟨j, hj, rfl⟩ := (hR.1 k).1 hk
          have h4 := hR.2.2.2 j hj
          rw [atf_nm (a := l[j]) (by omega) (by simp [h4])]
          have := HBd.out l[j] (List.getElem_mem h4)
          omega) (by unfold maxLen; omega))
        clear hQ hR hM hSn hlast hrem hB hnb hnsb hl6
        by_cases hlt : r < l.length
        · go_wp2_with fail
          refine CNx.out.mono ?_
          rintro e w6 (⟨hno, _⟩ | ⟨k, hk, hkl, hall, rfl, hQ6, hT6⟩)
          · exfalso
            have h1 := HRem.out
            rcases hre : rem with _ | ⟨j, rest⟩
            · rw [hre] at h1; simp at h1; omega
            · have := (HR.out.1 (nmL j)).2 ⟨j, by rw [hre]; simp, rfl⟩
              rw [hno (nmL j)] at this
              cases this
          · obtain ⟨i, hi, rfl⟩ := (HR.out.1 k).1 hk
            generalize hS0 : (⟨(nmL i).toArray⟩ : ByteArray) = S0
            have hi4 := HR.out.2.2.2 i hi
            have hM6 := hT6.mp HM.out (by omega) (by omega)
            have hkey : keyOf Try.prog 9 (.string S0) = some (.string (nmL i)) := by rw [← hS0]; exact keyOf_string_mk Try.underlying9 (s := ⟨(nmL i).toArray⟩) hkl
            have hlk : (Instr.lookup 59 (.map (some s)) (.string S0) false).run Try.prog w6 = .ok (.bool false) w6 := by
              rw [hM6.run_look strKq Try.underlying59 (zeroBoolQ _) hkey, valAt_not (HSn.out i hi)]
            have HI := Lib.hid hi
            have HS0 := Lib.hid hS0
            have HA := Lib.hid hall
            have HQ6 := Lib.hid hQ6
            have HB6 := Lib.hid (HB.out.trans (hT6.low HB.out.size hbw (by omega)))
            have hnsm : ns < maxLen := by have := HNb.out.2; have := HL.out; unfold maxLen; omega
            clear hi hS0 hall hQ6 hT6 hk hkl CNx
            go_wp2_with (at_mapUpdate; refine wpl_store_map rfl _ _ _ 59 rfl 9 4 strKq Try.underlying59 s ns S rfl hM6 hnsm _ (.bool true) _ rfl rfl hkey ?_; intro w7 hM7 hg7 hs7)
            have HQ7 := Lib.hid (HQ6.out.other hg7 hqs)
            have HB7 := Lib.hid (HB6.out.grown hg7 HB6.out.size (fun k hk => by cases hk; omega))
            have HM7 := Lib.hid hM7
            obtain ⟨a, ha⟩ : ∃ a, l[i]? = some a := ⟨l[i], by simp [hi4]⟩
            have hab := HBd.out a (List.mem_of_getElem? ha)
            have hla2 : last ≤ a := by have := HLa.out i HI.out; rw [List.getD_eq_getElem?_getD, ha] at this; exact this
            clear hg7 hs7 hM7 hlk hM6
            obtain ⟨wo, rfl⟩ : ∃ wo : World, wo = wr := ⟨_, rfl⟩
            go_loopw [8, 67] (fun v8 v wr => ∃ j : Nat, j ≤ l.length ∧ v = .int .i64 j ∧ ((j ≤ i ∧ v8 = .int .u16 last) ∨ (i < j ∧ v8 = .int .u16 a)) ∧ Below w7.heap.size w7 wr) (fun _ v _ => l.length - (intOf v).toNat)
            case atStart => exact ⟨0, Nat.zero_le _, rfl, .inl ⟨Nat.zero_le _, rfl⟩, Below.refl _ _⟩
            case round =>
              obtain ⟨j, hj, rfl, hv8, hBj⟩ := hrel
              by_cases hjl : j < l.length
              · have CN := Lib.hid (fun w1 => name_any j w1 (by have := HL.out; omega))
                have HBj := Lib.hid hBj
                clear hBj
                by_cases hji : j = i
                · subst hji
                  rcases hv8 with ⟨_, rfl⟩ | ⟨h, _⟩
                  · obtain ⟨ad, rfl, hadl, hc⟩ := (HS.out.below (HB7.out.trans (HBj.out.mono HB7.out.size))).cell1 (k := j) (u := u16v a) (by rw [List.getElem?_map, ha]; rfl)
                    unfold u16v at hc
                    have HC := Lib.hid hc
                    clear hc hadl
                    go_wp2_with fail
                    refine (CN.out wr).mono ?_
                    rintro e w8 ⟨rfl, hB8⟩
                    rw [show nmS j = S0 from HS0.out]
                    have hc := (Below.cell hB8 (by have := World.block_lt_of_cell? _ _ HC.out; exact this)).trans HC.out
                    have HB8 := Lib.hid (HBj.out.trans (hB8.mono HBj.out.size))
                    clear hB8
                    go_wp2_with fail
                    go_roundw
                    case rel => exact ⟨j + 1, by omega, by go_num, .inr ⟨by omega, rfl⟩, HB8.out⟩
                    case measure => simp [intOf]; omega
                  · omega
                · have hne : ¬ nmS j = S0 := fun e => by
                    rw [← HS0.out] at e
                    have e2 : nmL j = nmL i := by
                      have := congrArg (fun s : ByteArray => s.data.toList) e
                      simpa [nmS] using this
                    have := HL.out
                    exact hji (nm_inj (by omega) (by omega) e2)
                  have hne3 : ((nmS j).toList == S0.toList) = false := by
                    rw [beq_eq_false_iff_ne, ByteArray.toList_eq, ByteArray.toList_eq]
                    exact fun e => hne (by apply ByteArray.ext; exact Array.toList_inj.1 e)
                  have hv9 : (j + 1 ≤ i ∧ j ≤ i) ∨ (i < j + 1 ∧ i < j) := by omega
                  go_wp2_with fail
                  refine (CN.out wr).mono ?_
                  rintro e w8 ⟨rfl, hB8⟩
                  have HB8 := Lib.hid (HBj.out.trans (hB8.mono HBj.out.size))
                  clear hB8
                  rcases hv8 with ⟨h1, rfl⟩ | ⟨h1, rfl⟩
                  all_goals
                    go_wp2_with fail
                    go_roundw
                    case rel => exact ⟨j + 1, by omega, by go_num, by first | exact .inl ⟨by omega, rfl⟩ | exact .inr ⟨by omega, rfl⟩, HB8.out⟩
                    case measure => simp [intOf]; omega
              · have hjn : j = l.length := by omega
                subst hjn
                rcases hv8 with ⟨h, _⟩ | ⟨_, rfl⟩
                · omega
                · have hval : valAt (D.put (.string (nmL i)) (.held (itV 0 true false))) (.string S0.data.toList) zI = itV 0 true false := by
                    rw [← HS0.out]
                    exact valAt_put_same HQ.out.2.2.2.1.isMap (keyLit_string _) _ _
                  have CD := Lib.hid (done_hand wr q b f (n + 1) m 1 1 100 _ F (HQ7.out.below hBj) S0 (by rw [← HS0.out]; exact nmS_size i) 5 (by omega) (by omega) 0 hval)
                  have HBj := Lib.hid (HB7.out.trans (hBj.mono HB7.out.size))
                  have HMj := Lib.hid (HM7.out.below hBj)
                  clear hBj hval
                  go_wp2_with fail
                  refine CD.out.mono ?_
                  rintro e w8 ⟨rfl, hQ8, hT8⟩
                  have HQ8 := Lib.hid hQ8
                  have HT8 := Lib.hid hT8
                  clear hQ8 hT8
                  go_wp2_with fail
                  go_roundw
                  case rel =>
                    have e0 : S0.data.toList = nmL i := by rw [← HS0.out]
                    have hM8 := HT8.out.mp HMj.out (by omega) (by omega)
                    have hQ9 := HQ8.out
                    rw [e0] at hQ9
                    have hlen := List.length_erase_of_mem HI.out
                    have hpos := List.length_pos_of_mem HI.out
                    have h5 := HRem.out
                    refine ⟨r + 1, a, by omega, by go_num, hab, rfl, _, _, _, rem.erase i, _, _, _, hQ9, rq_take HL.out HQ.out.2.2.2.1.isMap HR.out HI.out, by omega, hM8,
                      sn_put HSn.out HR.out.2.2.1 (fun j hj => by have := HR.out.2.2.2 j hj; have := HL.out; omega) HI.out, fun j hj => ?_, by have := HNb.out.1; omega, by have := HNb.out.2; omega, HBj.out.trans (HT8.out.low HBj.out.size hbw (by omega))⟩
                    have hjr := List.mem_of_mem_erase hj
                    have hj4 := HR.out.2.2.2 j hjr
                    have hl6 := HL.out
                    have := HA.out (nmL j) ((HR.out.1 _).2 ⟨j, hjr, rfl⟩)
                    rw [atf_nm (by omega) ha, atf_nm (a := l[j]) (by omega) (by simp [hj4])] at this
                    rw [List.getD_eq_getElem?_getD, List.getElem?_eq_getElem hj4]
                    simp only [Option.getD_some]
                    omega
                  case measure => simp [intOf]; omega
        · have hrl : r = l.length := by omega
          subst hrl
          have hre : rem = [] := List.eq_nil_of_length_eq_zero (by have := HRem.out; omega)
          have hno : ∀ k, Maps.has D (.string k) = false := fun k => by
            cases h : Maps.has D (.string k)
            · rfl
            · obtain ⟨j, hj, _⟩ := (HR.out.1 k).1 h
              rw [hre] at hj
              cases hj
          have HNo := Lib.hid hno
          clear hno hre
          go_wp2_with fail
          refine CNx.out.mono ?_
          rintro e w6 (⟨_, rfl, hQ6, hT6⟩ | ⟨k, hk, _⟩)
          · have HQ6 := Lib.hid hQ6
            have hB6 := HB.out.trans (hT6.low HB.out.size hbw (by omega))
            clear hQ6 hT6
            go_wp2_with fail
            refine (qlen_empty w6 q b f n m 1 1 100 D F HQ6.out HNo.out).mono ?_
            rintro e w7 ⟨rfl, hB7⟩
            go_wp2_with fail
            go_ret
            exact ⟨rfl, hB6.trans (hB7.mono hB6.size)⟩
          · rw [HNo.out k] at hk
            cases hk
/-- The law's walk. -/
theorem queueAll_walk (A : Option Addr) (n c : Nat) (w : World) (h : Ok Try.prog w 9 51 (Value.slice A n c).cells.toList) :
    Calls Try.prog 5 #[.slice A n c] w fun e w' => e = .returned (.bool true) ∧ Below w.heap.size w w' := by
  obtain ⟨hm, zs, hz, hS, hw⟩ := ints_ok (m := 7) Try.underlying51 Try.underlying58 (by kernel_rfl) h
  by_cases h60 : 60 < n
  · exact qall_long n c A w hm h60
  · have hb : ∀ z ∈ zs, 0 ≤ z ∧ z ≤ 65535 := fun z hz => by
      have := hw z hz
      simp [Lit.wf, IntKind.min, IntKind.max, IntKind.signed, IntKind.bits] at this
      omega
    have e : zs.map (fun z => Value.int .u16 z) = (zs.map Int.toNat).map u16v := by
      rw [List.map_map]
      apply List.map_congr_left
      intro z hz
      have := hb z hz
      simp only [Function.comp, u16v]
      rw [Int.toNat_of_nonneg this.1]
    rw [e] at hS
    have hl : n = (zs.map Int.toNat).length := by simp [hz]
    subst hl
    refine qall_main _ c A w (by omega) (fun z hz => ?_) hS
    obtain ⟨y, hy, rfl⟩ := List.mem_map.1 hz
    have := hb y hy
    omega
end Go.Proofs.Ytepihnpagpajeaa
