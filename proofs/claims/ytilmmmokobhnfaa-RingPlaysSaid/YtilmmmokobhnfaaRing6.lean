/-
  The walk of package ring's Copy, at ints: a ring of its own.
-/
import Derived.Test.YtilmmmokobhnfaaRing5
import Derived.Test.YtilmmmokobhnfaaMem
namespace Go.Proofs.Ytilmmmokobhnfaa
open Go.RowKit Go.Proofs.Mem
set_option linter.unusedVariables false
set_option linter.unusedSimpArgs false
theorem info_smpI : (Try.prog.info? 91).map (fun i => (i.zero, i.size, i.bytes)) = some (some (.agg #[.int .i64 0, .int .i64 0]), 2, 16) := by kernel_rfl
set_option maxRecDepth 100000 in
/-- slices.Clone: the same cells, in a block of the call's own. -/
theorem clone_smpI (n : Nat) (xs : List Value) (v : Value) (w : World) (h : Sl w 2 v n xs) (h1 : ∀ u ∈ xs, u.oneCell' = true) (hl : n * 16 ≤ 140737488355328) :
    Calls Try.prog 74 #[v] w fun e w' => ∃ v', e = .returned v' ∧ w'.ownsRow w.heap.size 91 2 v' n xs ∧ Below w.heap.size w w' ∧ ((v = .slice none 0 0) → v' = .slice none 0 0) := by
  obtain ⟨A, c, rfl, hc, hA, hlen, hx⟩ := id h
  have hnil := fun (w : World) (a : Option Addr) (n c : Nat) => Lib.run_eql_slice_nil (P := Try.prog) w _ _ a n c 0 0 Try.underlying87
  have HL := Lib.hid hl
  clear hl
  cases A with
  | none =>
    have hc0 := hA rfl
    subst hc0
    obtain rfl : n = 0 := by omega
    obtain rfl : xs = [] := List.eq_nil_of_length_eq_zero (by simpa using hlen)
    go_enter Try.func74, Try.ntmps74
    go_wp2_with fail
    go_ret
    exact ⟨.slice none 0 0, rfl, World.ownsRow_nil .., Below.refl _ _, by simp⟩
  | some ad =>
    have hk : Bk (w.alloc (.cells #[] 91)) w.heap.size 91 #[] := Bk.new w _ _
    have hown : (w.alloc (.cells #[] 91)).ownsRow w.heap.size 91 2 (.slice (some ⟨w.heap.size, 0, none⟩) 0 0) 0 [] := by
      have := hk.own (base := w.heap.size) (size := 2) (n := 0) (c := 0) (Nat.le_refl _) (Nat.le_refl _) (by simp [maxLen]) rfl
      simpa using this
    go_enter Try.func74, Try.ntmps74
    go_wp2_with (at_builtin; refine wpl_append rfl _ _ _ rfl w.heap.size 91 _ 2 16 Try.underlying87 info_smpI rfl (by omega) (by omega) _ _ _ rfl hown _ n xs rfl (h.alloc _) h1 (by have := HL.out; omega) (by simp) ?_; intro v' w1 hown1 hgrow1 _)
    go_ret
    exact ⟨_, rfl, by simpa using hown1, below_grown ((Below.refl _ _).alloc (Nat.le_refl _) _) hown hgrow1 (by simp) (Nat.le_refl _), by simp⟩
theorem rc_one (l : List (Int × Int)) : ∀ u ∈ l.flatMap (rcells (Value.int .i64)), u.oneCell' = true := by
  intro u hu
  obtain ⟨x, _, hx⟩ := List.mem_flatMap.1 hu
  simp [rcells] at hx
  rcases hx with rfl | rfl <;> rfl
theorem rw_sl {α : Type} {mk : α → Value} {w : World} {q c : Nat} {t : TypeId} {zs : List (Int × α)} {rest : List Value} (h : Rw w q t (rcells mk) zs rest) (hc : zs.length ≤ c) : Sl w 2 (.slice (some ⟨q, 0, none⟩) zs.length c) zs.length (zs.flatMap (rcells mk)) := by
  refine ⟨_, _, rfl, hc, by simp, flat_len' (s := 2) (rcells mk) (fun _ => rfl) zs, fun _ => ⟨_, rfl, h.lt, fun j u hu => ?_⟩⟩
  rw [add_lit, Nat.zero_add, h.bk.cell, List.getElem?_toArray, List.getElem?_append_left (List.getElem?_eq_some_iff.1 hu).1]
  exact hu
theorem rw_of_own {α : Type} {mk : α → Value} {w : World} {base : Nat} {t : TypeId} {zs : List (Int × α)} {v : Value} (h : w.ownsRow base t 2 v zs.length (zs.flatMap (rcells mk))) (h0 : 0 < zs.length) : ∃ q c rest, v = .slice (some ⟨q, 0, none⟩) zs.length c ∧ zs.length ≤ c ∧ base ≤ q ∧ Rw w q t (rcells mk) zs rest := by
  obtain ⟨hl, h2⟩ := h
  rcases h2 with ⟨_, h3⟩ | ⟨g, cap, cur, rfl, hb, hg, hn, hc, hs, ht⟩
  · omega
  · refine ⟨g, cap, cur.toList.drop (zs.length * 2), rfl, hn, hb, ?_⟩
    unfold Rw
    rw [← ht, List.take_append_drop]
    exact hg
theorem keepC3 {p : Nat} {x0 x1 x2 : Value} {W w w' : World} (h : w.cell? ⟨p, 0, none⟩ = some x0 ∧ w.cell? ⟨p, 1, none⟩ = some x1 ∧ w.cell? ⟨p, 2, none⟩ = some x2 ∧ Below W.heap.size W w) (hB : Below w.heap.size w w') :
    w'.cell? ⟨p, 0, none⟩ = some x0 ∧ w'.cell? ⟨p, 1, none⟩ = some x1 ∧ w'.cell? ⟨p, 2, none⟩ = some x2 ∧ Below W.heap.size W w' := ⟨keep_cell hB h.1, keep_cell hB h.2.1, keep_cell hB h.2.2.1, below_tr h.2.2.2 hB⟩
set_option maxHeartbeats 400000 in
set_option maxRecDepth 100000 in
theorem copyI_any {p q f n : Nat} {zs : List (Int × Int)} (w : World) (h : RingI w p q zs f n) :
    Calls Try.prog 40 #[.pointer (some ⟨p, 0, none⟩)] w fun e w' => ∃ p' q', e = .returned (.pointer (some ⟨p', 0, none⟩)) ∧ RingI w' p' q' zs f n ∧ w.heap.size ≤ p' ∧ w.heap.size ≤ q' ∧ Below w.heap.size w w' := by
  obtain ⟨c, hc, b⟩ := h.bp
  obtain ⟨rest, bq⟩ := h.bq
  have h0 : 0 < zs.length := Nat.lt_of_le_of_lt (Nat.zero_le _) h.hf
  have hl32 := h.hl
  have hfin : Hid (f < zs.length ∧ n ≤ zs.length ∧ zs.length ≤ 32) := Lib.hid ⟨h.hf, h.hn, h.hl⟩
  have C1 := Lib.hid (fun w1 (hb : Below w.heap.size w w1) => (clone_smpI zs.length _ _ w1 (rw_sl (bq.below hb) hc) (rc_one zs) (by omega)).mono (R' := fun e w' => ∃ q' c' rest', e = .returned (.slice (some ⟨q', 0, none⟩) zs.length c') ∧ zs.length ≤ c' ∧ w1.heap.size ≤ q' ∧ Rw w' q' 91 (rcells (Value.int .i64)) zs rest' ∧ Below w1.heap.size w1 w') (fun e w' ⟨v', e1, ho, hB, _⟩ => by
    obtain ⟨q', c', rest', e2, e3, e4, e5⟩ := rw_of_own ho h0
    exact ⟨q', c', rest', by rw [e1, e2], e3, e4, e5, hB⟩))
  have d0 : w.drew.cell? ⟨p, 0, none⟩ = some (.slice (some ⟨q, 0, none⟩) zs.length c) := b.cell 0
  have d1 : w.drew.cell? ⟨p, 1, none⟩ = some (.int .i64 f) := b.cell 1
  have d2 : w.drew.cell? ⟨p, 2, none⟩ = some (.int .i64 n) := b.cell 2
  have hB0 : Below w.heap.size w w.drew := (Below.refl _ _).drew
  clear h b bq h0 hl32
  obtain ⟨N, hN⟩ : ∃ N, N = zs.length := ⟨_, rfl⟩
  rw [← hN] at d0 C1 hc hfin
  have HN := Lib.hid hN
  clear hN
  go_enter Try.func40, Try.ntmps40
  go_wp2_with fail
  go_region_held3 (fun w' => w'.cell? ⟨p, 0, none⟩ = some (.slice (some ⟨q, 0, none⟩) N c) ∧ w'.cell? ⟨p, 1, none⟩ = some (.int .i64 f) ∧ w'.cell? ⟨p, 2, none⟩ = some (.int .i64 n) ∧ Below w.heap.size w w')
    (first | (exact ⟨d0, d1, d2, hB0⟩) | (with_reducible exact keepC3 (by assumption) (below_al _ _)) | (with_reducible exact keepC3 (by assumption) hb9) | (with_reducible assumption))
    (first
      | (go_at_call 74; refine (C1.out _ hB0).mono ?_; rintro e wa ⟨q', c', rest', rfl, hcc, hq', hR', hb9⟩))
  have hBa : Below w.heap.size w wa := below_tr hB0 hb9
  have hk := Bk.new wa 143 #[.slice (some ⟨q', 0, none⟩) N c', .int .i64 f, .int .i64 n]
  rw [HN.out] at hk hcc
  have hRR : RingI (wa.alloc (.cells #[.slice (some ⟨q', 0, none⟩) zs.length c', .int .i64 f, .int .i64 n] 143)) wa.heap.size q' zs f n := ⟨⟨c', hcc, hk⟩, ⟨rest', hR'.alloc _⟩, Nat.ne_of_gt hR'.lt, by rw [← HN.out]; exact hfin.out.1, by rw [← HN.out]; exact hfin.out.2.1, by rw [← HN.out]; exact hfin.out.2.2⟩
  rw [← HN.out] at hRR
  have HRR := Lib.hid hRR
  clear hRR hk hcc hR' hb9 C1 hB0
  go_wp2_with fail
  go_ret
  exact ⟨wa.heap.size, q', rfl, HRR.out, hBa.size, hq', hBa.alloc hBa.size _⟩
end Go.Proofs.Ytilmmmokobhnfaa
