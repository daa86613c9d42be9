/-
  The walks of package trimtabref05: rows of asks that may be; of package trimtablaw07: whole, sized, wants.
-/
import Derived.Test.YtilmmmokobhnfaaRef5b
namespace Go.Proofs.Ytilmmmokobhnfaa
open Go.RowKit Go.Proofs.Mem
set_option linter.unusedVariables false
set_option linter.unusedSimpArgs false
def rqB (x : Req) : Bool := kvB x.key x.value && (decide (x.op = 0 ∨ x.op = 1) || (decide (x.op = 2 ∨ x.op = 3) && decide (x.value = ByteArray.empty)))
def aksB (l : List Req) : Bool := l.all rqB && decide (l.length ≤ 8)
def opOk (op : Int) (e : Bool) : Bool := decide (op = 0 ∨ op = 1) || (decide (op = 2 ∨ op = 3) && e)
theorem op_cases (op : Int) (e : Bool) : (op = 0 ∧ opOk op e = true) ∨ (op = 1 ∧ opOk op e = true) ∨ (op = 2 ∧ opOk op e = e) ∨ (op = 3 ∧ opOk op e = e) ∨ (((op == 0) = false ∧ (op == 1) = false ∧ (op == 2) = false ∧ (op == 3) = false) ∧ opOk op e = false) := by
  by_cases h0 : op = 0
  · left; exact ⟨h0, by simp [opOk, h0]⟩
  · by_cases h1 : op = 1
    · right; left; exact ⟨h1, by simp [opOk, h1]⟩
    · by_cases h2 : op = 2
      · right; right; left; exact ⟨h2, by simp [opOk, h2]⟩
      · by_cases h3 : op = 3
        · right; right; right; left; exact ⟨h3, by simp [opOk, h3]⟩
        · right; right; right; right; exact ⟨by simp [h0, h1, h2, h3], by simp [opOk, h0, h1, h2, h3]⟩
set_option maxHeartbeats 4000000 in
set_option maxRecDepth 100000 in
theorem asks5_any (r : Row Req) (w : World) (hr : ReqsOk w r) :
    Calls Try.prog 78 #[r.v] w fun e w' => e = .returned (.bool (aksB r.l)) ∧ Below w.heap.size w w' := by
  obtain ⟨v, l⟩ := r
  obtain ⟨h, hr2, hwf⟩ := hr
  simp only at h hr2 hwf ⊢
  obtain ⟨A, c, rfl, hc, _⟩ := id h
  have hl : l.length ≤ 9223372036854775807 := by
    have := Nat.le_trans hr2 reach_max
    unfold maxLen at this
    omega
  clear hr2
  obtain ⟨q, hq⟩ : ∃ q, q = aksB l := ⟨_, rfl⟩
  rw [← hq]
  have hQ := Lib.hid hq
  clear hq
  go_enter Try.func78, Try.ntmps78
  go_wp2_with fail
  go_loopw [7, 4] (fun i p wr => ∃ k : Nat, k ≤ l.length ∧ i = .int .i64 k ∧ Below w.heap.size w wr ∧ Hid (∀ y ∈ l.take k, rqB y = true)) (fun i p wr => l.length - (intOf i).toNat)
  case atStart => exact ⟨0, Nat.zero_le _, rfl, Below.refl _ _, Lib.hid (by simp)⟩
  case round =>
    obtain ⟨k, hk, rfl, hB, hall⟩ := hrel
    by_cases hlt : k < l.length
    · obtain ⟨b, o, rfl, hbl, hadd, hcell⟩ := Sl.row' (s := 3) (f := Req.cells) (fun _ => rfl) (by omega) (h.below hB) k hlt
      have a0 : wr.cell? ⟨b, o + k * 3, none⟩ = _ := hcell 0 _ rfl
      have a1 := hcell 1 _ rfl
      have a2 := hcell 2 _ rfl
      obtain ⟨wk, wv, _⟩ := hwf _ (List.getElem_mem hlt)
      have hN : rqB l[k] = true → Hid (∀ y ∈ l.take (k + 1), rqB y = true) := fun e => Lib.hid (by
        intro y hy
        rw [List.take_succ_eq_append_getElem hlt] at hy
        rcases List.mem_append.1 hy with hy | hy
        · exact hall.out y hy
        · simp at hy; subst hy; exact e)
      have hF : rqB l[k] = false → Hid (q = false) := fun e => Lib.hid (by
        rw [hQ.out]
        unfold aksB
        rw [Bool.and_eq_false_iff]
        left
        rw [List.all_eq_false]
        exact ⟨l[k], List.getElem_mem hlt, by rw [e]; decide⟩)
      clear hcell hall
      generalize l[k] = x at a0 a1 a2 wk wv hN hF
      obtain ⟨key, value, op⟩ := x
      simp only at a0 a1 a2 wk wv
      have hcs := kv_cases key value
      have C1 := Lib.hid (fun w1 => name_any key w1 wk)
      have C2 := Lib.hid (fun w1 => name_any value w1 wv)
      clear wk wv
      rcases hcs with ⟨h1, h3⟩ | ⟨h1, h2, h3⟩ | ⟨h1, h2, h4, h3⟩ | ⟨h1, h2, h4, h3⟩
      · rw [h1] at C1
        replace hF := hF (by simp [rqB, h3])
        clear h1 h3 C2 hN
        go_wp2_with fail
        refine (C1.out _).mono ?_
        rintro e w1 ⟨rfl, rfl⟩
        go_wp2_with fail
        go_ret
        exact ⟨by rw [hF.out]; rfl, hB.alloc hB.size _⟩
      · subst h2
        rw [h1] at C1
        have hr : rqB ⟨key, ByteArray.empty, op⟩ = opOk op true := by simp [rqB, h3, opOk]
        rw [hr] at hN hF
        clear hr h1 h3 C2
        rcases op_cases op true with ⟨rfl, h5⟩ | ⟨rfl, h5⟩ | ⟨rfl, h5⟩ | ⟨rfl, h5⟩ | ⟨⟨o0, o1, o2, o3⟩, h5⟩
        · replace hN := hN h5
          clear hF h5
          go_wp2_with fail
          refine (C1.out _).mono ?_
          rintro e w1 ⟨rfl, rfl⟩
          go_wp2_with fail
          exact ⟨⟨k + 1, by omega, by go_num, hB.alloc hB.size _, hN⟩, by simp [intOf]; omega⟩
        · replace hN := hN h5
          clear hF h5
          go_wp2_with fail
          refine (C1.out _).mono ?_
          rintro e w1 ⟨rfl, rfl⟩
          go_wp2_with fail
          exact ⟨⟨k + 1, by omega, by go_num, hB.alloc hB.size _, hN⟩, by simp [intOf]; omega⟩
        · replace hN := hN h5
          clear hF h5
          go_wp2_with fail
          refine (C1.out _).mono ?_
          rintro e w1 ⟨rfl, rfl⟩
          go_wp2_with fail
          exact ⟨⟨k + 1, by omega, by go_num, hB.alloc hB.size _, hN⟩, by simp [intOf]; omega⟩
        · replace hN := hN h5
          clear hF h5
          go_wp2_with fail
          refine (C1.out _).mono ?_
          rintro e w1 ⟨rfl, rfl⟩
          go_wp2_with fail
          exact ⟨⟨k + 1, by omega, by go_num, hB.alloc hB.size _, hN⟩, by simp [intOf]; omega⟩
        · replace hF := hF h5
          clear hN h5
          go_wp2_with fail
          refine (C1.out _).mono ?_
          rintro e w1 ⟨rfl, rfl⟩
          go_wp2_with fail
          go_ret
          exact ⟨by rw [hF.out]; rfl, hB.alloc hB.size _⟩
      · have hnd := str_ne' h2
        rw [h1] at C1
        rw [h4] at C2
        have hr : rqB ⟨key, value, op⟩ = opOk op false := by simp [rqB, h3, opOk, h2]
        rw [hr] at hN hF
        clear hr h1 h3 h2 h4
        rcases op_cases op false with ⟨rfl, h5⟩ | ⟨rfl, h5⟩ | ⟨rfl, h5⟩ | ⟨rfl, h5⟩ | ⟨⟨o0, o1, o2, o3⟩, h5⟩
        · replace hN := hN h5
          clear hF h5
          go_wp2_with fail
          refine (C1.out _).mono ?_
          rintro e w1 ⟨rfl, rfl⟩
          go_wp2_with fail
          refine (C2.out _).mono ?_
          rintro e w1 ⟨rfl, rfl⟩
          go_wp2_with fail
          exact ⟨⟨k + 1, by omega, by go_num, hB.alloc hB.size _, hN⟩, by simp [intOf]; omega⟩
        · replace hN := hN h5
          clear hF h5
          go_wp2_with fail
          refine (C1.out _).mono ?_
          rintro e w1 ⟨rfl, rfl⟩
          go_wp2_with fail
          refine (C2.out _).mono ?_
          rintro e w1 ⟨rfl, rfl⟩
          go_wp2_with fail
          exact ⟨⟨k + 1, by omega, by go_num, hB.alloc hB.size _, hN⟩, by simp [intOf]; omega⟩
        all_goals
          replace hF := hF h5
          clear hN h5
          go_wp2_with fail
          refine (C1.out _).mono ?_
          rintro e w1 ⟨rfl, rfl⟩
          go_wp2_with fail
          refine (C2.out _).mono ?_
          rintro e w1 ⟨rfl, rfl⟩
          go_wp2_with fail
          go_ret
          exact ⟨by rw [hF.out]; rfl, hB.alloc hB.size _⟩
      · have hnd := str_ne' h2
        rw [h1] at C1
        rw [h4] at C2
        replace hF := hF (by simp [rqB, h3])
        clear h1 h3 h2 h4 hN
        go_wp2_with fail
        refine (C1.out _).mono ?_
        rintro e w1 ⟨rfl, rfl⟩
        go_wp2_with fail
        refine (C2.out _).mono ?_
        rintro e w1 ⟨rfl, rfl⟩
        go_wp2_with fail
        go_ret
        exact ⟨by rw [hF.out]; rfl, hB.alloc hB.size _⟩
    · have e : l.take k = l := List.take_of_length_le (by omega)
      rw [e] at hall
      have hall' : (l.all rqB) = true := by rw [List.all_eq_true]; exact hall.out
      have hz : (((l.length : Nat) : Int) ≤ 8 ∧ Hid (q = true)) ∨ ((8 : Int) < ((l.length : Nat) : Int) ∧ Hid (q = false)) := by
        by_cases e : l.length ≤ 8
        · exact .inl ⟨by omega, Lib.hid (by rw [hQ.out]; simp only [aksB, hall']; simp [e])⟩
        · exact .inr ⟨by omega, Lib.hid (by rw [hQ.out]; simp [aksB, e])⟩
      clear e hall hall' hQ h hwf
      rcases hz with ⟨hz, hq⟩ | ⟨hz, hq⟩
      all_goals
        go_wp2_with fail
        go_ret
        exact ⟨by rw [hq.out]; first | rfl | (show Ending.returned (.bool (decide ((l.length : Int) ≤ 8))) = _; first | rw [decide_eq_true (by omega)] | rw [decide_eq_false (by omega)]), hB⟩
end Go.Proofs.Ytilmmmokobhnfaa
