/-
  What a round of trimtablaw10.RingPlays finds: a ring that has what a slice of the law's own has. Plain words.
-/
import Derived.Test.YtilmmmokobhnfaaRing10
import Derived.Test.YtilmmmokobhnfaaMidOwn
namespace Go.Proofs.Ytilmmmokobhnfaa
open Go.RowKit Go.Proofs.Mem
set_option linter.unusedVariables false
set_option linter.unusedSimpArgs false
/-- The ring at p, q, of at most m, has M. -/
def IsI (m p q : Nat) (w : World) (M : List (Int × Int)) : Prop := ∃ zs f n, RingI w p q zs f n ∧ zs.length = m ∧ lst zs f n = M
abbrev MvI (base : Nat) (w : World) (mv : Value) (M : List (Int × Int)) : Prop := MidOwn w base 91 2 mv M.length (M.flatMap (rcells (Value.int .i64)))
section
variable {m p q : Nat} {w w' : World} {M : List (Int × Int)}
theorem IsI.below (h : IsI m p q w M) (hb : Below w.heap.size w w') : IsI m p q w' M := by
  obtain ⟨zs, f, n, h1, h2, h3⟩ := h
  exact ⟨zs, f, n, h1.below hb, h2, h3⟩
theorem IsI.base {B : Nat} (h : IsI m p q w M) (hb : Below B w w') (hp : p < B) (hq : q < B) : IsI m p q w' M := by
  obtain ⟨zs, f, n, h1, h2, h3⟩ := h
  exact ⟨zs, f, n, ⟨h1.bp.imp fun _ b => ⟨b.1, b.2.below hb hp⟩, h1.bq.imp fun _ b => b.bk.below hb hq, h1.ne, h1.hf, h1.hn, h1.hl⟩, h2, h3⟩
theorem IsI.len (h : IsI m p q w M) : M.length ≤ m ∧ m ≤ 32 ∧ 0 < m := by
  obtain ⟨zs, f, n, h1, h2, h3⟩ := h
  have h0 : 0 < zs.length := Nat.lt_of_le_of_lt (Nat.zero_le _) h1.hf
  rw [← h3, lst_length zs f n h0]
  have := h1.hn; have := h1.hl
  omega
theorem mv_touch {base : Nat} {mv : Value} (h : MvI base w mv M) (ht : RTouch p q w w') (hp : p < base) (hq : q < base) : MvI base w' mv M := by
  obtain ⟨hl, h2⟩ := h
  refine ⟨hl, ?_⟩
  rcases h2 with h2 | ⟨g, off, cap, cur, rfl, hbg, hg, hn, hc, hs, hx⟩
  · exact .inl h2
  · exact .inr ⟨g, off, cap, cur, rfl, hbg, (ht.heap g (Array.getElem?_eq_some_iff.1 hg).1 (by omega) (by omega)).trans hg, hn, hc, hs, hx⟩
theorem mv_form {base : Nat} {mv : Value} (h : MvI base w mv M) : ∃ A c l, mv = .slice A l c ∧ M.length = l ∧ l ≤ c := by
  obtain ⟨hl, h2⟩ := h
  rcases h2 with ⟨rfl, h3⟩ | ⟨g, off, cap, cur, rfl, hbg, hg, hn, hc, hs, hx⟩
  · exact ⟨none, 0, 0, rfl, h3, by omega⟩
  · exact ⟨_, cap, _, rfl, rfl, hn⟩
theorem getLast_at {α : Type} {L : List α} {d : Nat} (h : L.length = d + 1) : L.getLast? = some (L[d]'(by omega)) := by
  rw [List.getLast?_eq_getElem?, show L.length - 1 = d by omega]
  exact List.getElem?_eq_getElem (by omega)
theorem mv_some {base : Nat} {A : Option Addr} {l c : Nat} (h : MvI base w (.slice A l c) M) (h0 : 0 < l) : ∃ g off, A = some ⟨g, off, none⟩ := by
  obtain ⟨hl, h2⟩ := h
  rcases h2 with ⟨h2, h3⟩ | ⟨g, off, cap, cur, h2, _⟩
  · injection h2 with _ h2
    omega
  · injection h2 with h2
    exact ⟨g, off, h2⟩
theorem mv_tail {base n g off cap : Nat} {y : Int × Int} (h : MvI base w (.slice (some ⟨g, off, none⟩) (n + 1) cap) (y :: M)) (hn : M.length = n) : MvI base w (.slice (some ⟨g, off + 2, none⟩) n (cap - 1)) M := by
  subst hn
  have := MidOwn.tail h
  simpa [rcells] using this
theorem MidOwn.lo {base : Nat} {e : TypeId} {s n : Nat} {v : Value} {xs : List Value} (h : MidOwn w base e s v n xs) : ∀ k, v.ownBlock = some k → base ≤ k := by
  obtain ⟨hl, h2⟩ := h
  rcases h2 with ⟨rfl, h3⟩ | ⟨g, off, cap, cur, rfl, hbg, hg, hn, hc, hs, hx⟩
  · intro k hk; simp [Value.ownBlock] at hk
  · intro k hk
    simp [Value.ownBlock] at hk
    omega
theorem mv_tail0 {base g off : Nat} {y : Int × Int} (h : MvI base w (.slice (some ⟨g, off, none⟩) 1 1) (y :: M)) (hM : M = []) : MvI base w (.slice (some ⟨g, off, none⟩) 0 0) M := by
  subst hM
  obtain ⟨hl, h2⟩ := h
  rcases h2 with ⟨h3, _⟩ | ⟨g', off', cap', cur, e1, hbg, hg, hn, hc, hs, ht⟩
  · cases h3
  · injection e1 with e1 _ e3
    injection e1 with e1
    injection e1 with e1 e2
    subst e1; subst e2; subst e3
    exact ⟨rfl, .inr ⟨g, off, 0, cur, rfl, hbg, hg, Nat.le_refl _, Nat.zero_le _, by omega, rfl⟩⟩
theorem wpl_push {ops : Array Oper} {rest : List Oper} {o : Oper} {a : Act} {Q : Exit → Act → World → Prop} (hgd : o.guard = none) (s x : Operand)
    (ho : o.op = .call { callee := .builtin .append, args := #[s, x], argTypes := #[87, 87] })
    {base : Nat} {A : Option Addr} {l c : Nat} (hs : a.eval s = .slice A l c) (hm : MvI base w (.slice A l c) M) (hl : M.length = l) (hl32 : l ≤ 32) (t z : Int)
    (hx : a.eval x = .slice (some ⟨w.heap.size, 0, none⟩) 1 1) (hbase : base ≤ w.heap.size)
    (h : ∀ A' c' w', MvI base w' (.slice A' (l + 1) c') (M ++ [(t, z)]) → Below base w w' → l + 1 ≤ c' → wpList Try.prog ops Q rest (a.put o.dst (.slice A' (l + 1) c')) w') :
    wpList Try.prog ops Q (o :: rest) a (w.alloc (.cells #[.int .i64 t, .int .i64 z] 91)) := by
  have hb := below_al w (.cells #[.int .i64 t, .int .i64 z] 91)
  have hm1 := MidOwn.below hm hb
  refine wpl_append_mid hgd s x _ ho base 91 _ 2 16 Try.underlying87 info_smpI rfl (by omega) _ M.length _ hs hm1 ⟨w.heap.size, 0, none⟩ 1 1 [.int .i64 t, .int .i64 z] hx rfl ?_ ?_ (by simp [maxLen]; omega) (by omega) (Nat.le_trans hbase hb.size) ?_
  · intro j u hu
    have hk := Bk.new w 91 #[.int .i64 t, .int .i64 z]
    rw [add_lit, hk.cell]
    rcases j with _ | _ | j
    · exact hu
    · exact hu
    · simp at hu
  · intro u hu
    simp at hu
    rcases hu with rfl | rfl <;> rfl
  · intro v' w' hM' hg
    have hM2 : MvI base w' v' (M ++ [(t, z)]) := by
      unfold MvI
      rw [List.length_append, List.flatMap_append]
      simpa [rcells] using hM'
    obtain ⟨A', c', l', rfl, hl', hc'⟩ := mv_form hM2
    have e : l' = l + 1 := by rw [← hl', List.length_append, hl]; rfl
    subst e
    exact h A' c' w' hM2 ((hb.mono hbase).grown hg (Nat.le_trans hbase hb.size) (MidOwn.lo hm1)) hc'
theorem isp (h : IsI m p q w M) (t : Int) {base : Nat} {mv : Value} (hm : MvI base w mv M) (hs : M.Pairwise fun a b => a.1 < b.1) :
    Calls Try.prog 41 #[.pointer (some ⟨p, 0, none⟩), mv, .int .i64 t] w fun e w' => e = .returned (.bool true) ∧ Below w.heap.size w w' := by
  obtain ⟨zs, f, n, h1, h2, h3⟩ := h
  exact is_true t w h1 mv M hm.sl h3 hs
theorem putp_stale (t : Int) (ht : 0 ≤ t) (x : Int) (h : IsI m p q w M) (y : Int × Int) (hy : M.getLast? = some y) (hty : t ≤ y.1) :
    Calls Try.prog 38 #[.pointer (some ⟨p, 0, none⟩), .int .i64 t, .int .i64 x] w fun e w' => e = .returned (.int .i64 13) ∧ Below w.heap.size w w' := by
  obtain ⟨zs, f, n, h1, h2, h3⟩ := h
  exact putI_stale t ht x w h1 y (by rw [h3]; exact hy) hty
theorem putp_ok (t : Int) (ht : 0 ≤ t) (x : Int) (h : IsI m p q w M) (hy : ∀ y, M.getLast? = some y → y.1 < t) :
    Calls Try.prog 38 #[.pointer (some ⟨p, 0, none⟩), .int .i64 t, .int .i64 x] w fun e w' => e = .returned (.int .i64 0) ∧ IsI m p q w' ((if M.length = m then M.drop 1 else M) ++ [(t, x)]) ∧ RTouch p q w w' := by
  obtain ⟨zs, f, n, h1, h2, h3⟩ := h
  have h0 : 0 < zs.length := Nat.lt_of_le_of_lt (Nat.zero_le _) h1.hf
  have hn : n = M.length := by rw [← h3]; exact (lst_length zs f n h0).symm
  refine (putI_ok t ht x w h1 (by rw [h3]; exact hy)).mono fun e w' ⟨he, ⟨zs', f', n', k1, k2, k3⟩, k4⟩ => ⟨he, ⟨zs', f', n', k1, k2.trans h2, ?_⟩, k4⟩
  rw [k3, h3, hn, h2]
theorem putp_any (t : Int) (ht : 0 ≤ t) (x : Int) (h : IsI m p q w M) :
    Calls Try.prog 38 #[.pointer (some ⟨p, 0, none⟩), .int .i64 t, .int .i64 x] w fun e w' => ∃ (k : Int) (M' : List (Int × Int)), e = .returned (.int .i64 k) ∧ IsI m p q w' M' ∧ RTouch p q w w' := by
  by_cases hy : ∀ y, M.getLast? = some y → y.1 < t
  · exact (putp_ok t ht x h hy).mono fun e w' ⟨h1, h2, h3⟩ => ⟨_, _, h1, h2, h3⟩
  · obtain ⟨y, hy⟩ := Classical.not_forall.1 hy
    obtain ⟨hy1, hy2⟩ := Classical.not_imp.1 hy
    exact (putp_stale t ht x h y hy1 (by omega)).mono fun e w' ⟨h1, h2⟩ => ⟨_, _, h1, h.below h2, RTouch.of_below h2⟩
theorem cutp (t : Int) (h : IsI m p q w M) :
    Calls Try.prog 39 #[.pointer (some ⟨p, 0, none⟩), .int .i64 t] w fun e w' => e = .returned (.int .i64 ((M.takeWhile fun y => decide (y.1 < t)).length : Nat)) ∧ IsI m p q w' (M.dropWhile fun y => decide (y.1 < t)) ∧ RTouch p q w w' := by
  obtain ⟨zs, f, n, h1, h2, h3⟩ := h
  refine (cutI_any t w h1).mono fun e w' ⟨he, ⟨zs', f', n', k1, k2, k3⟩, k4⟩ => ⟨by rw [he, h3], ⟨zs', f', n', k1, k2.trans h2, by rw [k3, h3]⟩, k4⟩
theorem copyp (h : IsI m p q w M) :
    Calls Try.prog 40 #[.pointer (some ⟨p, 0, none⟩)] w fun e w' => ∃ p' q', e = .returned (.pointer (some ⟨p', 0, none⟩)) ∧ IsI m p' q' w' M ∧ w.heap.size ≤ p' ∧ w.heap.size ≤ q' ∧ Below w.heap.size w w' := by
  obtain ⟨zs, f, n, h1, h2, h3⟩ := h
  exact (copyI_any w h1).mono fun e w' ⟨p', q', he, k1, k2, k3, k4⟩ => ⟨p', q', he, ⟨zs, f, n, k1, h2, h3⟩, k2, k3, k4⟩
theorem newp (h1 : 1 ≤ m) (h2 : m ≤ 32) (w : World) : Calls Try.prog 37 #[.int .i64 m] w fun e w' => ∃ p q, e = .returned (.tuple #[.pointer (some ⟨p, 0, none⟩), .int .i64 0]) ∧ IsI m p q w' [] ∧ w.heap.size ≤ p ∧ w.heap.size ≤ q ∧ p < w'.heap.size ∧ q < w'.heap.size ∧ Below w.heap.size w w' :=
  (newI_ok m h1 h2 w).mono fun e w' ⟨p, q, he, k1, k2, k3, k4⟩ => ⟨p, q, he, ⟨_, _, _, k1, by simp, rfl⟩, k2, k3, k1.plt, k1.qlt, k4⟩
/-- An ascending list with one more behind it. -/
theorem asc_push {t x : Int} (hs : M.Pairwise fun a b => a.1 < b.1) (hy : ∀ y, M.getLast? = some y → y.1 < t) : (M ++ [(t, x)]).Pairwise fun a b => a.1 < b.1 := by
  rw [List.pairwise_append]
  refine ⟨hs, by simp, fun a ha b hb => ?_⟩
  simp at hb
  subst hb
  rcases List.eq_nil_or_concat M with h0 | ⟨L, z, h0⟩
  · subst h0; simp at ha
  · have hz := hy z (by rw [h0]; simp)
    rw [h0, List.concat_eq_append, List.pairwise_append] at hs
    rw [h0, List.concat_eq_append] at ha
    rcases List.mem_append.1 ha with h1 | h1
    · have := hs.2.2 a h1 z (by simp)
      exact Int.lt_trans this hz
    · simp at h1
      subst h1
      exact hz
end
end Go.Proofs.Ytilmmmokobhnfaa
