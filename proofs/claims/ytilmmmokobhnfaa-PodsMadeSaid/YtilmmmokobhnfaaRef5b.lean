/-
  The walks of package trimtabref05: rows of labels that may be.
-/
import Derived.Test.YtilmmmokobhnfaaRef5
import Derived.WalkLawsBesides
import Derived.Deep.QuietTactic
namespace Go.Proofs.Ytilmmmokobhnfaa
open Go.RowKit Go.Proofs.Mem
set_option linter.unusedVariables false
set_option linter.unusedSimpArgs false
def lessB (a b : ByteArray) : Bool := Op.bytesLess a.toList b.toList
theorem run_geq (a b : ByteArray) (r : Bool) (h : lessB a b = !r) (w : World) : (Op.stringOp .geq a b).run Try.prog w = .ok (.bool r) w := by
  unfold lessB at h
  simp [Op.stringOp, h]
/-- A key and a value that may be. -/
def kvB (k v : ByteArray) : Bool := nmB k && (decide (v = ByteArray.empty) || nmB v)
def rtAll (l : List Lab) : Prop := ∀ (i : Nat) (h : i < l.length), kvB l[i].key l[i].value = true ∧ ∀ (j : Nat) (hj : j < i), lessB (l[j]'(by omega)).key l[i].key = true
instance (l : List Lab) : Decidable (rtAll l) := by unfold rtAll; infer_instance
def rtB (l : List Lab) : Bool := decide (rtAll l) && decide (l.length ≤ 8)
theorem kv_cases (k v : ByteArray) : (nmB k = false ∧ kvB k v = false) ∨ (nmB k = true ∧ v = ByteArray.empty ∧ kvB k v = true) ∨ (nmB k = true ∧ v ≠ ByteArray.empty ∧ nmB v = true ∧ kvB k v = true) ∨ (nmB k = true ∧ v ≠ ByteArray.empty ∧ nmB v = false ∧ kvB k v = false) := by
  unfold kvB
  cases h1 : nmB k
  · left; simp
  · by_cases h2 : v = ByteArray.empty
    · right; left; exact ⟨rfl, h2, by simp [h2]⟩
    · cases h3 : nmB v
      · right; right; right; exact ⟨rfl, h2, rfl, by simp [h2]⟩
      · right; right; left; exact ⟨rfl, h2, rfl, by simp⟩
theorem str_ne' {s : ByteArray} (h : s ≠ ByteArray.empty) : (s.toList == ([] : List UInt8)) = false := by
  cases e : s.toList == ([] : List UInt8)
  · rfl
  · exfalso
    apply h
    have e' : s.toList = [] := by simpa using e
    rw [ByteArray.toList_eq] at e'
    apply ByteArray.ext
    apply Array.toList_inj.1
    rw [e']
    rfl
set_option maxHeartbeats 4000000 in
set_option maxRecDepth 100000 in
theorem right5_any (r : Row Lab) (w : World) (hr : LabsOk w r) :
    Calls Try.prog 54 #[r.v] w fun e w' => e = .returned (.bool (rtB r.l)) ∧ Below w.heap.size w w' := by
  obtain ⟨v, l⟩ := r
  obtain ⟨h, hr2, hwf⟩ := hr
  simp only at h hr2 hwf ⊢
  obtain ⟨A, c, rfl, hc, _⟩ := id h
  have hl : l.length ≤ 9223372036854775807 := by
    have := Nat.le_trans hr2 reach_max
    unfold maxLen at this
    omega
  clear hr2
  obtain ⟨q, hq⟩ : ∃ q, q = rtB l := ⟨_, rfl⟩
  rw [← hq]
  have hQ := Lib.hid hq
  clear hq
  go_enter Try.func54, Try.ntmps54
  go_wp2_with fail
  go_loopw [7, 3, 4] (fun i p s wr => ∃ k : Nat, k ≤ l.length ∧ i = .int .i64 k ∧ Below w.heap.size w wr ∧ Hid (∀ (i : Nat) (h : i < l.length), i < k → kvB l[i].key l[i].value = true ∧ ∀ (j : Nat) (hj : j < i), lessB (l[j]'(by omega)).key l[i].key = true)) (fun i p s wr => l.length - (intOf i).toNat)
  case atStart => exact ⟨0, Nat.zero_le _, rfl, Below.refl _ _, Lib.hid (fun i h hi => absurd hi (by omega))⟩
  case round =>
    obtain ⟨k, hk, rfl, hB, hall⟩ := hrel
    by_cases hlt : k < l.length
    · obtain ⟨b, o, rfl, hbl, hadd, hcell⟩ := Sl.row' (s := 2) (f := Lab.cells) (fun _ => rfl) (by omega) (h.below hB) k hlt
      have a0 : wr.cell? ⟨b, o + k * 2, none⟩ = some (.string l[k].key) := hcell 0 _ rfl
      have a1 : wr.cell? ⟨b, o + k * 2 + 1, none⟩ = some (.string l[k].value) := hcell 1 _ rfl
      obtain ⟨wk, wv⟩ := hwf _ (List.getElem_mem hlt)
      have hcs := kv_cases l[k].key l[k].value
      have C1 := Lib.hid (fun w1 => name_any l[k].key w1 wk)
      have C2 := Lib.hid (fun w1 => name_any l[k].value w1 wv)
      have hF : kvB l[k].key l[k].value = false → Hid (q = false) := fun e => Lib.hid (by
        rw [hQ.out]
        unfold rtB
        rw [Bool.and_eq_false_iff]
        left
        rw [decide_eq_false_iff_not]
        intro hh
        have := (hh k hlt).1
        rw [e] at this
        cases this)
      clear hcell
      obtain ⟨key, hkey⟩ : ∃ key, key = l[k].key := ⟨_, rfl⟩
      obtain ⟨value, hvalue⟩ : ∃ value, value = l[k].value := ⟨_, rfl⟩
      have HK := Lib.hid hkey
      have HV := Lib.hid hvalue
      rw [← hkey] at a0 C1 hcs hF
      rw [← hvalue] at a1 C2 hcs hF
      clear hkey hvalue wk wv
      have i0 : (0 : Int) ≤ (k : Int) := by omega
      have i1 : (k : Int) < (l.length : Int) := by omega
      rcases hcs with ⟨h1, h3⟩ | ⟨h1, h2, h3⟩ | ⟨h1, h2, h4, h3⟩ | ⟨h1, h2, h4, h3⟩
      · rw [h1] at C1
        replace hF := hF h3
        clear h1 h3 C2 hall
        go_wp2_with fail
        refine (C1.out _).mono ?_
        rintro e w1 ⟨rfl, rfl⟩
        go_wp2_with fail
        go_ret
        exact ⟨by rw [hF.out]; rfl, hB⟩
      · subst h2
        rw [h1] at C1
        have HG := Lib.hid h3
        clear hF h1 h3 C2
        go_wp2_with fail
        refine (C1.out _).mono ?_
        rintro e w1 ⟨rfl, rfl⟩
        go_wp2_with fail
        obtain ⟨W1, hW1⟩ : ∃ W1, W1 = wr := ⟨_, rfl⟩
        subst hW1
        go_loopw [4] (fun s wq => ∃ m : Nat, m ≤ k ∧ s = .int .i64 m ∧ Below W1.heap.size W1 wq ∧ Hid (∀ (j : Nat) (hj : j < m) (hjl : j < l.length), lessB l[j].key key = true)) (fun s wq => k - (intOf s).toNat)
        case atStart => exact ⟨0, Nat.zero_le _, rfl, Below.refl _ _, Lib.hid (fun j hj => absurd hj (by omega))⟩
        case round =>
          obtain ⟨m, hm, rfl, hBq, hin⟩ := hrel
          by_cases hmk : m < k
          · obtain ⟨b', o', e', _, _, hcell⟩ := Sl.row' (s := 2) (f := Lab.cells) (fun _ => rfl) (by omega) (h.below (hB.trans (hBq.mono hB.size))) m (by omega)
            injection e' with e'
            injection e' with e1 e2
            subst e1; subst e2
            have b0 : wr.cell? ⟨b, o + m * 2, none⟩ = some (.string l[m].key) := hcell 0 _ rfl
            have d0 := keep_cell hBq a0
            obtain ⟨r, hr⟩ : ∃ r, lessB l[m].key key = !r := ⟨!lessB l[m].key key, by simp⟩
            have hge : Op.bytesLess l[m].key.toList key.toList = !r := hr
            have j0 : (0 : Int) ≤ (m : Int) := by omega
            have j1 : (m : Int) < (l.length : Int) := by omega
            have hN : r = false → Hid (∀ (j : Nat) (hj : j < m + 1) (hjl : j < l.length), lessB l[j].key key = true) := fun e => Lib.hid (fun j hj hjl => by
              by_cases hjm : j = m
              · subst hjm; rw [hr, e]; rfl
              · exact hin.out j (by omega) hjl)
            have hF2 : r = true → Hid (q = false) := fun e => Lib.hid (by
              rw [hQ.out]
              unfold rtB
              rw [Bool.and_eq_false_iff]
              left
              rw [decide_eq_false_iff_not]
              intro hh
              have := (hh k hlt).2 m hmk
              rw [← HK.out, hr, e] at this
              cases this)
            clear hcell hr hin
            generalize l[m].key = mk at b0 hge
            cases r
            · replace hN := hN rfl
              clear hF2
              go_wp2_with fail
              go_quiet (fail)
              go_wp2_with fail
              exact ⟨⟨m + 1, by omega, by go_num, below_drewN hBq _, hN⟩, by simp [intOf]; omega⟩
            · replace hF2 := hF2 rfl
              clear hN
              go_wp2_with fail
              go_quiet (fail)
              go_wp2_with fail
              go_ret
              exact ⟨by rw [hF2.out]; rfl, below_drewN (hB.trans (hBq.mono hB.size)) _⟩
          · have HN : Hid (∀ (i : Nat) (h : i < l.length), i < k + 1 → kvB l[i].key l[i].value = true ∧ ∀ (j : Nat) (hj : j < i), lessB (l[j]'(by omega)).key l[i].key = true) := Lib.hid (fun i hi hik => by
              by_cases hie : i = k
              · subst hie
                refine ⟨by rw [← HK.out, ← HV.out]; exact HG.out, fun j hj => ?_⟩
                rw [← HK.out]
                exact hin.out j (by omega) (by omega)
              · exact hall.out i hi (by omega))
            clear hin hall
            go_wp2_with fail
            exact ⟨⟨k + 1, by omega, by go_num, hB.trans (hBq.mono hB.size), HN⟩, by simp [intOf]; omega⟩
      · have hnd := str_ne' h2
        rw [h1] at C1
        rw [h4] at C2
        have HG := Lib.hid h3
        clear hF h1 h3 h2 h4
        go_wp2_with fail
        refine (C1.out _).mono ?_
        rintro e w1 ⟨rfl, rfl⟩
        go_wp2_with fail
        refine (C2.out _).mono ?_
        rintro e w1 ⟨rfl, rfl⟩
        go_wp2_with fail
        obtain ⟨W1, hW1⟩ : ∃ W1, W1 = wr := ⟨_, rfl⟩
        subst hW1
        go_loopw [4] (fun s wq => ∃ m : Nat, m ≤ k ∧ s = .int .i64 m ∧ Below W1.heap.size W1 wq ∧ Hid (∀ (j : Nat) (hj : j < m) (hjl : j < l.length), lessB l[j].key key = true)) (fun s wq => k - (intOf s).toNat)
        case atStart => exact ⟨0, Nat.zero_le _, rfl, Below.refl _ _, Lib.hid (fun j hj => absurd hj (by omega))⟩
        case round =>
          obtain ⟨m, hm, rfl, hBq, hin⟩ := hrel
          by_cases hmk : m < k
          · obtain ⟨b', o', e', _, _, hcell⟩ := Sl.row' (s := 2) (f := Lab.cells) (fun _ => rfl) (by omega) (h.below (hB.trans (hBq.mono hB.size))) m (by omega)
            injection e' with e'
            injection e' with e1 e2
            subst e1; subst e2
            have b0 : wr.cell? ⟨b, o + m * 2, none⟩ = some (.string l[m].key) := hcell 0 _ rfl
            have d0 := keep_cell hBq a0
            obtain ⟨r, hr⟩ : ∃ r, lessB l[m].key key = !r := ⟨!lessB l[m].key key, by simp⟩
            have hge : Op.bytesLess l[m].key.toList key.toList = !r := hr
            have j0 : (0 : Int) ≤ (m : Int) := by omega
            have j1 : (m : Int) < (l.length : Int) := by omega
            have hN : r = false → Hid (∀ (j : Nat) (hj : j < m + 1) (hjl : j < l.length), lessB l[j].key key = true) := fun e => Lib.hid (fun j hj hjl => by
              by_cases hjm : j = m
              · subst hjm; rw [hr, e]; rfl
              · exact hin.out j (by omega) hjl)
            have hF2 : r = true → Hid (q = false) := fun e => Lib.hid (by
              rw [hQ.out]
              unfold rtB
              rw [Bool.and_eq_false_iff]
              left
              rw [decide_eq_false_iff_not]
              intro hh
              have := (hh k hlt).2 m hmk
              rw [← HK.out, hr, e] at this
              cases this)
            clear hcell hr hin
            generalize l[m].key = mk at b0 hge
            cases r
            · replace hN := hN rfl
              clear hF2
              go_wp2_with fail
              go_quiet (fail)
              go_wp2_with fail
              exact ⟨⟨m + 1, by omega, by go_num, below_drewN hBq _, hN⟩, by simp [intOf]; omega⟩
            · replace hF2 := hF2 rfl
              clear hN
              go_wp2_with fail
              go_quiet (fail)
              go_wp2_with fail
              go_ret
              exact ⟨by rw [hF2.out]; rfl, below_drewN (hB.trans (hBq.mono hB.size)) _⟩
          · have HN : Hid (∀ (i : Nat) (h : i < l.length), i < k + 1 → kvB l[i].key l[i].value = true ∧ ∀ (j : Nat) (hj : j < i), lessB (l[j]'(by omega)).key l[i].key = true) := Lib.hid (fun i hi hik => by
              by_cases hie : i = k
              · subst hie
                refine ⟨by rw [← HK.out, ← HV.out]; exact HG.out, fun j hj => ?_⟩
                rw [← HK.out]
                exact hin.out j (by omega) (by omega)
              · exact hall.out i hi (by omega))
            clear hin hall
            go_wp2_with fail
            exact ⟨⟨k + 1, by omega, by go_num, hB.trans (hBq.mono hB.size), HN⟩, by simp [intOf]; omega⟩
      · have hnd := str_ne' h2
        rw [h1] at C1
        rw [h4] at C2
        replace hF := hF h3
        clear h1 h3 h2 h4 hall
        go_wp2_with fail
        refine (C1.out _).mono ?_
        rintro e w1 ⟨rfl, rfl⟩
        go_wp2_with fail
        refine (C2.out _).mono ?_
        rintro e w1 ⟨rfl, rfl⟩
        go_wp2_with fail
        go_ret
        exact ⟨by rw [hF.out]; rfl, hB⟩
    · have ha : rtAll l := fun i hi => hall.out i hi (by omega)
      have hz : (((l.length : Nat) : Int) ≤ 8 ∧ Hid (q = true)) ∨ ((8 : Int) < ((l.length : Nat) : Int) ∧ Hid (q = false)) := by
        by_cases e : l.length ≤ 8
        · exact .inl ⟨by omega, Lib.hid (by rw [hQ.out]; simp [rtB, ha, e])⟩
        · exact .inr ⟨by omega, Lib.hid (by rw [hQ.out]; simp [rtB, e])⟩
      clear hall ha hQ hwf
      rcases hz with ⟨hz, hq⟩ | ⟨hz, hq⟩
      all_goals
        go_wp2_with fail
        go_ret
        exact ⟨by rw [hq.out]; first | rfl | (show Ending.returned (.bool (decide ((l.length : Int) ≤ 8))) = _; first | rw [decide_eq_true (by omega)] | rw [decide_eq_false (by omega)]), hB⟩
end Go.Proofs.Ytilmmmokobhnfaa
