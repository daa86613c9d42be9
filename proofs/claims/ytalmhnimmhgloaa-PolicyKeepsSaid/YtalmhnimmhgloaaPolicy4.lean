/-
  The walk of the statement PolicyAllows.
-/
import Derived.Test.YtalmhnimmhgloaaPolicy3
namespace Go.Proofs.Ytalmhnimmhgloaa
open Go.RowKit Go.Proofs.Mem Go.Proofs.Bit
set_option linter.unusedVariables false
set_option linter.unusedSimpArgs false
theorem info_scaled : (Try.prog.info? 44).map (fun i => (i.zero, i.size, i.bytes)) = some (some (.agg #[.int .i64 0, .int .i64 0, .int .i64 0]), 3, 24) := by kernel_rfl
theorem wpl_pushS {w : World} {ops : Array Oper} {rest : List Oper} {o : Oper} {a : Act} {Q : Exit → Act → World → Prop} (hgd : o.guard = none) (s x : Operand)
    (ho : o.op = .call { callee := .builtin .append, args := #[s, x], argTypes := #[41, 41] }) {base B : Nat} {W : World} {v : Value} {l : List Done} (hown : w.ownsRow base 44 3 v l.length (l.flatMap Done.cells)) (d : Done)
    (hbw : Below B W w) (hB : B ≤ base) (hb : base ≤ w.heap.size) (hl : l.length ≤ 4096) (hs : a.eval s = v) (hx : a.eval x = .slice (some ⟨w.heap.size, 0, none⟩) 1 1)
    (h : ∀ v' w', w'.ownsRow base 44 3 v' (l ++ [d]).length ((l ++ [d]).flatMap Done.cells) → Below B W w' → base ≤ w'.heap.size → wpList Try.prog ops Q rest (a.put o.dst v') w') :
    wpList Try.prog ops Q (o :: rest) a (w.alloc (.cells #[.int .i64 d.at', .int .i64 d.from', .int .i64 d.to'] 44)) := by
  refine wpl_append hgd s x _ ho base 44 _ 3 24 Try.underlying41 info_scaled rfl (by omega) (by omega) v _ _ hs (hown.alloc _) _ 1 d.cells hx
    (Sl.made w #[.int .i64 d.at', .int .i64 d.from', .int .i64 d.to'] 44 1 1 (Nat.le_refl _) rfl) (by intro u hu; simp [Done.cells] at hu; rcases hu with rfl | rfl | rfl <;> rfl) (by omega) (by simp; omega) ?_
  intro v' w' h1 h2 _
  have hb1 : Below B W (w.alloc (.cells #[.int .i64 d.at', .int .i64 d.from', .int .i64 d.to'] 44)) := hbw.alloc (by omega) _
  refine h v' w' (by simpa using h1) (below_grown hb1 (hown.alloc _) h2 (by simp; omega) hB) ?_
  have := h2.size
  simp at this
  omega
def iv64 (n : Int) : Value := .int .i64 n
theorem allows_some (a b there now : Int) (ts : List Int) (v : Value) (w : World) (ha : 0 ≤ a ∧ a < 65536) (hb : 0 ≤ b ∧ b < 65536) (ht : 0 ≤ there ∧ there ≤ 1000) (hnow : okC now = true) (hl : ts.length ≤ 20) (h : Sl w 1 v ts.length (ts.map iv)) :
    Calls Try.prog 4 #[.int .u16 a, .int .u16 b, .int .i64 there, v, .int .i64 now] w fun e w' => e = .returned (.bool true) ∧ Below w.heap.size w w' := by
  obtain ⟨n0, n1⟩ := okC_t hnow
  have CR : Hid (∀ w1, Calls Try.prog 16 #[.slice none 0 0, .int .i64 now] w1 fun e w' => e = .returned (.bool true) ∧ Below w1.heap.size w1 w') := Lib.hid (fun w1 => by have := right0_any now w1; rw [hnow] at this; exact this)
  obtain ⟨A, c, rfl, hc, _⟩ := id h
  obtain ⟨t0, t1⟩ := ht
  obtain ⟨a0, a1⟩ := ha
  obtain ⟨b0, b1⟩ := hb
  have hlI : ((ts.length : Nat) : Int) ≤ 20 := by omega
  obtain ⟨V, hV⟩ : ∃ V, V = 1 + a % 50 := ⟨_, rfl⟩
  obtain ⟨P, hP⟩ : ∃ P, P = 1 + b % 1800 := ⟨_, rfl⟩
  go_enter Try.func4, Try.ntmps4
  go_wp2_with (first
    | (go_at_call 15; refine (lives22_any _).mono ?_; rintro e w1 ⟨rfl, hb1⟩)
    | (go_at_call 16; refine (CR.out _).mono ?_; rintro e w2 ⟨rfl, hb2⟩))
  rw [← hV, ← hP]
  have hV1 : 1 ≤ V ∧ V ≤ 50 := by omega
  have hP1 : 1 ≤ P ∧ P ≤ 1800 := by omega
  have hPw : (Lit.int .i64 P).wf = true := by simp [Lit.wf, IntKind.min, IntKind.max, IntKind.signed, IntKind.bits]; omega
  clear hV hP
  obtain ⟨W3, hW3⟩ : ∃ W3, W3 = ((w2.alloc (.cells #[.bool false, .int .i64 V, .int .i64 P] 37)).alloc (.cells #[.bool false, .int .i64 V, .int .i64 P] 37)).alloc (.cells #[.int .i64 0, .int .i64 0, .slice (some ⟨w2.heap.size + 1, 0, none⟩) 1 1] 40) := ⟨_, rfl⟩
  rw [← hW3]
  have hsz : W3.heap.size = w2.heap.size + 3 := by rw [hW3]; simp
  have kp : Bk W3 w2.heap.size 37 #[.bool false, .int .i64 V, .int .i64 P] := by rw [hW3]; exact ((Bk.new w2 _ _).alloc _).alloc _
  have ks : Sl W3 3 (.slice (some ⟨w2.heap.size + 1, 0, none⟩) 1 1) 1 [.bool false, .int .i64 V, .int .i64 P] := by
    rw [hW3]
    have := Sl.made (size := 3) (w2.alloc (.cells #[.bool false, .int .i64 V, .int .i64 P] 37)) #[.bool false, .int .i64 V, .int .i64 P] 37 1 1 (Nat.le_refl _) rfl
    rw [World.size_alloc] at this
    exact this.alloc _
  have kb : Bk W3 (w2.heap.size + 1 + 1) 40 #[.int .i64 0, .int .i64 0, .slice (some ⟨w2.heap.size + 1, 0, none⟩) 1 1] := by
    rw [hW3]
    have := Bk.new ((w2.alloc (.cells #[.bool false, .int .i64 V, .int .i64 P] 37)).alloc (.cells #[.bool false, .int .i64 V, .int .i64 P] 37)) 40 #[.int .i64 0, .int .i64 0, .slice (some ⟨w2.heap.size + 1, 0, none⟩) 1 1]
    simpa using this
  have hB3 : Below w.heap.size w W3 := by
    rw [hW3]
    have h12 := hb1.trans (hb2.mono hb1.size)
    exact ((h12.alloc h12.size _).alloc (Nat.le_trans h12.size (by simp)) _).alloc (Nat.le_trans h12.size (by simp; omega)) _
  clear hW3
  go_loopw [54, 13, 14, 16, 17] (fun i past m u1 u2 wr => ∃ (k : Nat) (xs : List Done) (n : Int) (pv : Value), k ≤ ts.length ∧ i = .int .i64 k ∧ xs.length = k ∧ past = pv ∧ wr.ownsRow W3.heap.size 44 3 pv xs.length (xs.flatMap Done.cells) ∧ m = .int .i64 n ∧ Inv xs now P V there n ∧ Below W3.heap.size W3 wr) (fun i past m u1 u2 wr => ts.length - (intOf i).toNat)
  case atStart => exact ⟨0, [], there, _, Nat.zero_le _, rfl, rfl, rfl, World.ownsRow_nil .., rfl, ⟨by simp [net], by simp [net], by simp [net], by simp [net], by omega, by omega, t0⟩, Below.refl _ _⟩
  case round =>
    obtain ⟨k, xs, n, pv, hk, rfl, hxl, rfl, hown, rfl, hI, hB⟩ := hrel
    have hBw : Below w.heap.size w wr := hB3.trans (hB.mono hB3.size)
    have kb' := kb.below' hB
    have kp' := kp.below' hB
    have e0 := kb'.cell 0
    have e1 := kb'.cell 1
    have e2 := kb'.cell 2
    have p1 := kp'.cell 1
    by_cases hlt : k < ts.length
    · obtain ⟨ad, rfl, _, hcell⟩ := Sl.cell1 (k := k) (u := iv ts[k]) (h.below hBw) (by simp [hlt])
      unfold iv at hcell
      have hu := cnt_bd ts[k]
      have hS := inv_step xs now P V there n (cnt ts[k]) (by omega) hV1 ⟨t0, t1⟩ (by omega) hu hI
      have hcn : cnt n = n := by have := hI.lo; have := hI.hi; have := hI.nn; unfold cnt; omega
      have G := go_any xs [⟨false, V, P⟩] [⟨false, V, P⟩] now n ts[k] 0 0 _ (.slice (some ⟨w2.heap.size + 1, 0, none⟩) 1 1) (.slice (some ⟨w2.heap.size + 1, 0, none⟩) 1 1) wr (by omega) (Sl.of_own hown) ⟨n0, n1⟩
        (by simp) (ks.below hB) (by intro p hp; simp at hp; subst hp; exact hPw) (by simp) (ks.below hB) (by intro p hp; simp at hp; subst hp; exact hPw)
      rw [hcn] at G
      generalize goR xs now [⟨false, V, P⟩] [⟨false, V, P⟩] n (cnt ts[k]) = m at hS G
      generalize ts[k] = u at hcell G
      have q1 := hS.lo
      have q2 := hS.hi
      have q3 : ¬ V < m - there := by omega
      have q4 : ¬ V < there - m := by omega
      have q5 : -100 ≤ m - there := by omega
      have q6 : m - there ≤ 100 := by omega
      have G := Lib.hid G
      have HS := Lib.hid hS
      clear hS hI hu hcn
      go_wp2_with fail
      refine G.out.mono ?_
      rintro e w5 ⟨rfl, hb5⟩
      have kp5 := kp'.below' hb5
      have p5 := kp5.cell 1
      have hown5 := own_below hown hb5
      have hB5 := hB.trans (hb5.mono hB.size)
      go_wp2_with (at_builtin; refine wpl_pushS rfl _ _ rfl hown5 ⟨now, n, m⟩ hB5 (Nat.le_refl _) hB5.size (by omega) rfl rfl ?_; intro v' w6 hown6 hB6 hle6; have kp6 := kp.below' hB6; have p6 := kp6.cell 1)
      all_goals first
        | (exfalso; omega)
        | exact ⟨⟨k + 1, _, m, v', by omega, by go_num, by simp [hxl], rfl, hown6, rfl, HS.out, hB6⟩, by simp [intOf]; omega⟩
    · go_wp2_with fail
      go_ret
      exact ⟨rfl, hBw⟩
theorem allows_none (a b there now : Int) (n : Nat) (A : Option Addr) (c : Nat) (w : World) (hn : n ≤ maxLen) (hbad : 20 < n ∨ (n ≤ 20 ∧ okC now = false) ∨ (n ≤ 20 ∧ okC now = true ∧ there < 0) ∨ (n ≤ 20 ∧ okC now = true ∧ 0 ≤ there ∧ 1000 < there)) :
    Calls Try.prog 4 #[.int .u16 a, .int .u16 b, .int .i64 there, .slice A n c, .int .i64 now] w fun e w' => e = .returned (.bool true) ∧ Below w.heap.size w w' := by
  have CR := Lib.hid (fun w1 => right0_any now w1)
  rcases hbad with h1 | ⟨h1, h2⟩ | ⟨h1, h2, h3⟩ | ⟨h1, h2, h3, h4⟩
  · have hI : (20 : Int) < (n : Int) := by omega
    go_enter Try.func4, Try.ntmps4
    go_wp2_with fail
    refine (lives22_any _).mono ?_
    rintro e w1 ⟨rfl, hb1⟩
    go_wp2_with fail
    refine (lives22_any _).mono ?_
    rintro e w2 ⟨rfl, hb2⟩
    go_wp2_with fail
    go_ret
    exact ⟨rfl, hb1.trans (hb2.mono hb1.size)⟩
  all_goals
    have hI : ((n : Nat) : Int) ≤ 20 := by omega
    rw [h2] at CR
    clear h2
    go_enter Try.func4, Try.ntmps4
    go_wp2_with fail
    refine (lives22_any _).mono ?_
    rintro e w1 ⟨rfl, hb1⟩
    go_wp2_with fail
    refine (CR.out _).mono ?_
    rintro e w2 ⟨rfl, hb2⟩
    go_wp2_with fail
    refine (lives22_any _).mono ?_
    rintro e w3 ⟨rfl, hb3⟩
    go_wp2_with fail
    go_ret
    have h12 := hb1.trans (hb2.mono hb1.size)
    exact ⟨rfl, h12.trans (hb3.mono h12.size)⟩
/-- A row of one-cell integers that came in. -/
theorem ints_of {P : Program} {w : World} {t e : TypeId} {k : IntKind} {A : Option Addr} {n c m : Nat} (ht : P.underlying t = some (.slice e)) (he : P.underlying e = some (.int k)) (hc : P.cellsOf e = 1) (h : Ok P w (m + 2) t (Value.slice A n c).cells.toList) :
    n ≤ maxLen ∧ ∃ zs : List Int, zs.length = n ∧ Sl w 1 (.slice A n c) n (zs.map (fun z => Value.int k z)) ∧ ∀ z ∈ zs, (Lit.int k z).wf = true := by
  obtain ⟨v, m', xs, e1, hS, hm, hel⟩ := ok_slice ht h (by omega)
  rw [hc] at hS hel
  have e2 : v = .slice A n c := by simp [Value.cells] at e1; exact e1.symm
  subst e2
  obtain ⟨rfl, _, _, hl, _⟩ := hS.parts
  rw [Nat.mul_one] at hl
  refine ⟨hm, ?_⟩
  have key : ∀ j, j ≤ xs.length → ∃ zs : List Int, zs.length = j ∧ xs.take j = zs.map (fun z => Value.int k z) ∧ ∀ z ∈ zs, (Lit.int k z).wf = true := by
    intro j
    induction j with
    | zero => intro _; exact ⟨[], rfl, by simp, by simp⟩
    | succ j ih =>
      intro hj
      obtain ⟨zs, h1, h2, h3⟩ := ih (by omega)
      obtain ⟨z, hz, hw⟩ := ok_int he (hel j (by omega))
      rw [Nat.mul_one] at hz
      have := one_cell hz
      rw [List.getElem?_eq_getElem (by omega)] at this
      injection this with this
      refine ⟨zs ++ [z], by simp [h1], ?_, ?_⟩
      · rw [List.take_succ_eq_append_getElem (by omega), h2, this, List.map_append]
        rfl
      · intro y hy
        rcases List.mem_append.1 hy with hy | hy
        · exact h3 y hy
        · simp at hy; subst hy; exact hw
  obtain ⟨zs, h1, h2, h3⟩ := key xs.length (Nat.le_refl _)
  rw [List.take_length] at h2
  exact ⟨zs, by omega, by rw [← h2]; exact hS, h3⟩
theorem policyAllows_walk (a b there : Int) (A : Option Addr) (n c : Nat) (now : Int) (w : World) (wa : (Lit.int .u16 a).wf = true) (wb : (Lit.int .u16 b).wf = true) (wt : (Lit.int .i64 there).wf = true) (h : Ok Try.prog w 9 34 (Value.slice A n c).cells.toList) (wn : (Lit.int .i64 now).wf = true) :
    Calls Try.prog 4 #[.int .u16 a, .int .u16 b, .int .i64 there, .slice A n c, .int .i64 now] w fun e w' => e = .returned (.bool true) ∧ Below w.heap.size w w' := by
  obtain ⟨hm, zs, hz, hS, _⟩ := ints_of (m := 7) Try.underlying34 Try.underlying3 (by kernel_rfl) h
  have ha : 0 ≤ a ∧ a < 65536 := by simp [Lit.wf, IntKind.min, IntKind.max, IntKind.signed, IntKind.bits] at wa; omega
  have hb : 0 ≤ b ∧ b < 65536 := by simp [Lit.wf, IntKind.min, IntKind.max, IntKind.signed, IntKind.bits] at wb; omega
  by_cases hl : n ≤ 20
  · by_cases hn : okC now = true
    · by_cases ht : 0 ≤ there ∧ there ≤ 1000
      · subst hz
        exact allows_some a b there now zs _ w ha hb ht hn hl hS
      · exact allows_none a b there now n A c w hm (by
          rcases Int.lt_or_le there 0 with h1 | h1
          · exact .inr (.inr (.inl ⟨hl, hn, h1⟩))
          · exact .inr (.inr (.inr ⟨hl, hn, h1, by omega⟩)))
    · exact allows_none a b there now n A c w hm (.inr (.inl ⟨hl, by simpa using hn⟩))
  · exact allows_none a b there now n A c w hm (.inl (by omega))
end Go.Proofs.Ytalmhnimmhgloaa
