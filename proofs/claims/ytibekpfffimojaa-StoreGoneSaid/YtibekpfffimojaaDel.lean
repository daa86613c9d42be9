/-
  slices.Delete of the first event of a row of the call's own.
-/
import Derived.Test.YtibekpfffimojaaSt2
import Derived.OwnWalk
namespace Go.Proofs.Mem
open Go.RowKit
set_option linter.unusedVariables false
section
variable {w : World} {base g n c : Nat} {e : TypeId} {size : Nat} {xs : List Value}
theorem own_parts (h : w.ownsRow base e size (.slice (some ⟨g, 0, none⟩) n c) n xs) : ∃ cur, Bk w g e cur ∧ base ≤ g ∧ n ≤ c ∧ c ≤ maxLen ∧ cur.size = c * size ∧ cur.toList.take (n * size) = xs := by
  rcases h.2 with ⟨h1, _⟩ | ⟨g', c', cur, hv, h1, h2, h3, h4, h5, h6⟩
  · cases h1
  · injection hv with e1 e2 e3
    injection e1 with e1
    injection e1 with e1
    subst e1; subst e3
    exact ⟨cur, h2, h1, h3, h4, h5, h6⟩
theorem own_none (h : w.ownsRow base e size (.slice (some ⟨g, 0, none⟩) n c) n xs) : w.ownsRow base e size (.slice (some ⟨g, 0, none⟩) 0 c) 0 [] := by
  obtain ⟨cur, h1, h2, h3, h4, h5, h6⟩ := own_parts h
  exact ⟨by simp, .inr ⟨g, c, cur, rfl, h2, h1, Nat.zero_le _, h4, h5, by simp⟩⟩
/-- What lies behind a row of the call's own may be set. -/
theorem own_behind (h : w.ownsRow base e size (.slice (some ⟨g, 0, none⟩) n c) n xs) (vs : List Value) : (w.setCells g (n * size) vs).ownsRow base e size (.slice (some ⟨g, 0, none⟩) n c) n xs := by
  obtain ⟨cur, h1, h2, h3, h4, h5, h6⟩ := own_parts h
  have hk := h1.setL vs (n * size) _ rfl
  have hl : xs.length = n * size := h.1
  have hs : cur.toList = xs ++ cur.toList.drop (n * size) := by rw [← h6, List.take_append_drop]
  refine ⟨hl, .inr ⟨g, c, _, rfl, h2, hk, h3, h4, ?_, ?_⟩⟩
  · rw [List.size_toArray, setL_len, Array.length_toList, h5]
  · have e1 : Mem.setL cur.toList (n * size) vs = xs ++ Mem.setL (cur.toList.drop (n * size)) 0 vs := by
      have := setL_app vs xs (cur.toList.drop (n * size)) 0
      rw [hl, Nat.add_zero, ← hs] at this
      exact this
    rw [e1, ← hl]
    simp
theorem grown_setCell {w w' : World} {g : Nat} (h : w.grownBy w' (some g)) (o : Nat) (v : Value) : w.grownBy (w'.setCell ⟨g, o, none⟩ v) (some g) :=
  ⟨h.os, h.tape, h.output, by have := h.size; simp [World.setCell]; omega, fun k hk hne => (Below.heap_setCell w' ⟨g, o, none⟩ v k (by simpa using hne)).trans (h.block k hk hne)⟩
theorem grown_setCells {w w' : World} {g : Nat} (h : w.grownBy w' (some g)) : ∀ (vs : List Value) (o : Nat), w.grownBy (w'.setCells g o vs) (some g) := by
  intro vs o
  induction vs generalizing w' o with
  | nil => exact h
  | cons v r ih =>
    rw [World.setCells]
    exact ih (grown_setCell h o v) (o + 1)
theorem wp_append_fits {P : Program} (w : World) {o : Oper} {a : Act} {K : Act → World → Prop} {Q : Exit → Act → World → Prop}
    (s x : Operand) (t : TypeId) (hop : o.op = Op.call { callee := Callee.builtin Builtin.append, args := #[s, x], argTypes := #[t, t] })
    (base : Nat) (e : TypeId) (i : TypeInfo) (size : Nat) (h1 : P.underlying t = some (.slice e)) (h2 : P.info? e = some i) (h4 : i.size = size)
    (g k cap : Nat) (xs : List Value) (hs : a.eval s = .slice (some ⟨g, 0, none⟩) k cap) (hown : w.ownsRow base e size (.slice (some ⟨g, 0, none⟩) k cap) k xs) (ad : Addr) (m c : Nat) (news : List Value) (hx : a.eval x = .slice (some ad) m c) (hn : news.length = m * size)
    (hc : ∀ j u, news[j]? = some u → w.cell? (ad.add j) = some u) (h1c : ∀ u ∈ news, u.oneCell' = true) (b1 : k + m ≤ cap)
    (hK : ∀ w', w'.ownsRow base e size (.slice (some ⟨g, 0, none⟩) (k + m) cap) (k + m) (xs ++ news) → w.grownBy w' (some g) → K (a.put o.dst (.slice (some ⟨g, 0, none⟩) (k + m) cap)) w') :
    o.wp P a w K Q := by
  obtain ⟨w', hrun, r1, r2⟩ := run_append_fits (P := P) w base t o.type e i size h1 h2 h4 g k cap xs hown ad m c news hn hc h1c b1
  unfold Oper.wp
  simp [execOp, hop, resolve, invoke, builtin, hs, hx, hrun, Result.andThen]
  exact hK w' r1 r2
theorem wpl_clear1 {P : Program} {w : World} {ops : Array Oper} {rest : List Oper} {o : Oper} {a : Act} {Q : Exit → Act → World → Prop} (hgd : o.guard = none) (x : Operand) (t el : TypeId)
    (ho : o.op = .call { callee := .builtin .clear, args := #[x], argTypes := #[t] }) (hd : o.dst = none) (ht : P.underlying t = some (.slice el)) (z : Value) (hv : ∀ w, (zeroValue el).run P w = .ok z w) (zs : List Value) (hz : (Builtin.zeroCells z.cells 1).toList = zs) (h1 : ∀ v ∈ zs, v.oneCell' = true)
    (b off c : Nat) (hx : a.eval x = .slice (some ⟨b, off, none⟩) 1 c) (hc : ∀ j, j < zs.length → (w.cell? ⟨b, off + j, none⟩).isSome = true) (hf : ∀ j, j < zs.length → w.frozen? ⟨b, off + j, none⟩ = false)
    (h : wpList P ops Q rest a (w.setCells b off zs)) : wpList P ops Q (o :: rest) a w := by
  refine wpList_plain hgd fun K hK => ?_
  have hr := run_clear_cells (P := P) w t el o.type z ht hv b off 1 c zs hz h1 hc hf
  rw [if_neg (by omega)] at hr
  unfold Oper.wp execOp
  simp only [ho, resolve, invoke, builtin, Sem.run_bind, Sem.run_pure, Result.andThen_ok, List.map_toArray, List.map_cons, List.map_nil, hx, hr]
  refine hK _ _ ?_
  simpa [Act.put, hd] using h
end
end Go.Proofs.Mem
namespace Go.Proofs.Ytibekpfffimojaa
open Go.RowKit Go.Proofs.Mem
set_option linter.unusedVariables false
set_option linter.unusedSimpArgs false
def EvZ : Value := .agg #[.int .i64 0, .int .i64 0, .string ⟨#[]⟩, .int .u64 0]
theorem zero_ev (w : World) : (zeroValue 68).run Try.prog w = .ok EvZ w := by kernel_rfl
set_option maxHeartbeats 2000000 in
set_option maxRecDepth 100000 in
theorem del_first (w : World) (base g n c : Nat) (x : Ev) (xs : List Ev) (hxl : xs.length = n) (h : w.ownsRow base 68 4 (.slice (some ⟨g, 0, none⟩) (n + 1) c) (n + 1) ((x :: xs).flatMap Ev.cells)) (h0 : 0 < n) (hn : n ≤ 1000000) :
    Calls Try.prog 35 #[.slice (some ⟨g, 0, none⟩) ((n + 1 : Nat)) c, .int .i64 0, .int .i64 1] w fun e w' => e = .returned (.slice (some ⟨g, 0, none⟩) n c) ∧ w'.ownsRow base 68 4 (.slice (some ⟨g, 0, none⟩) n c) n (xs.flatMap Ev.cells) ∧ w.grownBy w' (some g) := by
  obtain ⟨ti, hi0, hz0, hz1, hz2⟩ := info_parts info_ev
  obtain ⟨cur, k1, k2, k3, k4, k5, k6⟩ := own_parts h
  have HO := Lib.hid (own_none h)
  have HC := Lib.hid (show ∀ j u, (xs.flatMap Ev.cells)[j]? = some u → w.drew.cell? (⟨g, 4 + j, none⟩ : Addr) = some u from by
    intro j u hu
    have h7 : (cur.toList.take ((n + 1) * 4))[4 + j]? = some u := by
      rw [k6, List.flatMap_cons, List.getElem?_append_right (by simp [Ev.cells])]
      simpa [Ev.cells] using hu
    rw [List.getElem?_take] at h7
    split at h7
    · exact (k1.cell _).trans (by rw [← Array.getElem?_toList]; exact h7)
    · cases h7)
  have c1 : 1 ≤ c := by omega
  have c2 : ¬ c = 1 := by omega
  have c3 : n + 1 ≤ c := k3
  clear h k1 k2 k4 k5 k6
  have c4 : (1 : Int) ≤ (n : Int) + 1 := by omega
  have c5 : (n : Int) ≤ (n : Int) + 1 := by omega
  have c6 : n ≤ c := by omega
  have c7 : n + 1 - n = 1 := by omega
  have c8 : ¬ c = n := by omega
  have HL : (xs.flatMap Ev.cells).length = n * 4 := by rw [flat_len' (s := 4) Ev.cells (fun _ => rfl), hxl]
  have H1 : ∀ u ∈ xs.flatMap Ev.cells, u.oneCell' = true := fun u hu => by
    obtain ⟨y, _, hy⟩ := List.mem_flatMap.1 hu
    simp only [Ev.cells, List.mem_cons, List.not_mem_nil, or_false] at hy
    rcases hy with rfl | rfl | rfl | rfl <;> rfl
  go_enter Try.func35, Try.ntmps35
  go_wp2_with fail
  refine wp_region_reads 6 1 (fun _ => True) (by kernel_rfl) (by kernel_rfl) (fun c a d v w h => by cases d <;> exact h) trivial ?_
  simp only [List.take_succ_cons, List.take_zero, List.drop_succ_cons, List.drop_zero]
  iterate 6
    refine reads_step (v := ?_) (by rfl) (fun w' hS => ?_) ?_
    rotate_left
    · go_simp
      with_reducible rfl
    simp only [Act.put, List.setIfInBounds_toArray, List.set_cons_zero, List.set_cons_succ]
  refine reads_nil ?_
  refine early_step rfl (by rfl) ?_
  refine wp_append_fits _ (.tmp 22) (.tmp 25) 52 rfl base 68 ti 4 Try.underlying52 hi0 hz1 g 0 c [] rfl HO.out.drew ⟨g, 4, none⟩ n (c - 1) (xs.flatMap Ev.cells) rfl HL (fun j u hu => by rw [Addr.add_lit]; exact HC.out j u hu) H1 (by omega) ?_
  intro w1 own1 gr1
  refine ⟨trivial, ?_⟩
  simp only [wpEarly, Nat.zero_add, List.nil_append] at own1 ⊢
  simp only [Act.put, List.setIfInBounds_toArray, List.set_cons_zero, List.set_cons_succ]
  have HN := Lib.hid own1
  have gr : w.grownBy w1 (some g) := ⟨gr1.os, gr1.tape, gr1.output, gr1.size, gr1.block⟩
  have HG := Lib.hid gr
  obtain ⟨cur1, k1, k2, k3, k4, k5, k6⟩ := own_parts own1
  have HK := Lib.hid k1
  have hc5 : (n + 1) * 4 ≤ cur1.size := by rw [k5]; exact Nat.mul_le_mul_right _ c3
  have hcl : ∀ ty, (Builtin.clear_ #[52] ty #[.slice (some ⟨g, n * 4, none⟩) 1 (c - n)]).run Try.prog w1 = .ok (.tuple #[]) (w1.setCells g (n * 4) EvZ.cells.toList) := by
    intro ty
    have hr := run_clear_cells (P := Try.prog) w1 52 68 ty EvZ Try.underlying52 zero_ev g (n * 4) 1 (c - n) EvZ.cells.toList (by kernel_rfl) (by decide) (fun j hj => by
      have hj4 : j < 4 := hj
      rw [k1.cell, Array.getElem?_eq_getElem (by omega)]
      rfl) (fun j _ => k1.frozen _)
    rwa [if_neg (by omega)] at hr
  have G2 := grown_setCells gr EvZ.cells.toList (n * 4)
  have O2 := own_behind own1 EvZ.cells.toList
  generalize w1.setCells g (n * 4) EvZ.cells.toList = w2 at hcl G2 O2
  clear own1 gr1 gr HN HG k1 k2 k3 k4 k5 k6 HC HO H1 HL
  go_wp2_with fail
  go_ret
  exact ⟨rfl, O2, G2⟩
end Go.Proofs.Ytibekpfffimojaa
