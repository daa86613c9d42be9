/-
  The walks of the reference's functions on lists of bits, the rest: the two halves of 128 bits, the bits of two halves, quotient and rest. Lists of at most 900 bits; nothing that was there turns.
-/
import Derived.Test.YtalmhnimmhgloaaBitw
namespace Go.Proofs.Ytalmhnimmhgloaa
open Go.RowKit Go.Proofs.Mem Go.Proofs.Bit
set_option linter.unusedVariables false
set_option linter.unusedSimpArgs false

/-- 'append(out, y...)' in a walk. -/
theorem wpl_cat {w : World} {ops : Array Oper} {rest : List Oper} {o : Oper} {a : Act} {Q : Exit → Act → World → Prop} (hgd : o.guard = none) (s x : Operand)
    (ho : o.op = .call { callee := .builtin .append, args := #[s, x], argTypes := #[106, 106] }) {base B : Nat} {W : World} {v y : Value} {l m : List Nat} (hown : w.ownsRow base 5 1 v l.length (l.map bv))
    (hy : Bts w y m) (hbw : Below B W w) (hB : B ≤ base) (hb : base ≤ w.heap.size) (hl : l.length + m.length ≤ 8192) (hs : a.eval s = v) (hx : a.eval x = y)
    (h : ∀ v' w', w'.ownsRow base 5 1 v' (l ++ m).length ((l ++ m).map bv) → Below B W w' → base ≤ w'.heap.size → w.grownBy w' v.ownBlock → wpList Try.prog ops Q rest (a.put o.dst v') w') :
    wpList Try.prog ops Q (o :: rest) a w := by
  refine wpl_append hgd s x _ ho base 5 _ 1 1 Try.underlying106 info_u8 rfl (by omega) (by omega) v _ _ hs hown _ _ _ hx hy (bv_one _) (by omega) hb ?_
  intro v' w' h1 h2 _
  refine h v' w' (by simpa using h1) (below_grown hbw hown h2 (by omega) hB) ?_ h2
  have := h2.size
  omega

theorem numb_any (x : Nat) (v : Value) (w : World) (hl : (bitsOf x).length ≤ 4096) (h : Bts w v (bitsOf x)) :
    Calls Try.prog 55 #[v] w fun e w' => e = .returned (.tuple #[.int .u64 ((x % 18446744073709551616 : Nat) : Int), .bool (decide (x < 18446744073709551616))]) ∧ w = w' := by
  refine (number_any (bitsOf x) v w hl (bin_bitsOf x) h).mono ?_
  rintro e w' ⟨rfl, rfl⟩
  rw [val_bitsOf]
  have e : decide (((bitsOf x).length : Int) ≤ 64) = decide (x < 18446744073709551616) := by
    rw [decide_eq_decide]
    have := length_bitsOf_iff x 64
    exact ⟨fun h => this.1 (by omega), fun h => by have := this.2 h; omega⟩
  rw [e]
  exact ⟨rfl, rfl⟩
theorem trimmed_any (l : List Nat) (v : Value) (w : World) (hl : l.length ≤ 4096) (hb : Bin l) (h : Bts w v l) :
    Calls Try.prog 74 #[v] w (SomeBts w (bitsOf (val l))) := trim_any l v w hl hb h
theorem bitsOf_val_le {l : List Nat} (h : Bin l) : (bitsOf (val l)).length ≤ l.length := length_bitsOf_le (val_lt h)

/-- A cut in the midst: the walk's own form of the address. -/
theorem Bts.mid {w : World} {A : Option Addr} {n c k : Nat} {l : List Nat} (h : Bts w (.slice A n c) l) (hk : k ≤ l.length) : Bts w (.slice (if c = k then A else A.map (·.add k)) (n - k) (c - k)) (l.drop k) := by
  obtain ⟨e, _⟩ := Sl.parts h
  subst e
  have := Sl.drop (k := k) h hk
  unfold Bts
  rw [List.length_drop, List.map_drop]
  simpa using this

theorem two_end (a b x y : Nat) (h1 : a = x % 18446744073709551616) (h2 : b = y % 18446744073709551616) :
    Ending.returned (.tuple #[.int .u64 ((b : Int) % 18446744073709551616), .int .u64 ((a : Int) % 18446744073709551616)]) = Ending.returned (.tuple #[.int .u64 ((y % 18446744073709551616 : Nat) : Int), .int .u64 ((x % 18446744073709551616 : Nat) : Int)]) := by
  subst h1; subst h2; simp
theorem join_rel (o : List Nat) (x : Nat) (h : val o = x) : val (o ++ [0]) = x := by rw [val_snoc]; simpa using h
/-! ### Quotient and rest -/
theorem div_step (a by_ q r x n : Nat) (h : n = q * by_ + r) (hr : r < by_) (e : a = 2 * n + x) (hx : x < 2) :
    (by_ ≤ 2 * r + x → a = (2 * q + 1) * by_ + (2 * r + x - by_) ∧ 2 * r + x - by_ < by_) ∧ (2 * r + x < by_ → a = 2 * q * by_ + (2 * r + x)) := by
  have e1 : (2 * q + 1) * by_ = 2 * (q * by_) + by_ := by rw [Nat.add_mul, Nat.mul_assoc, Nat.one_mul]
  have e2 : 2 * q * by_ = 2 * (q * by_) := Nat.mul_assoc _ _ _
  constructor
  · intro h1; rw [e1]; omega
  · intro h1; rw [e2]; omega
theorem own_bits {w : World} {g base : Nat} {qs : List Nat} (h : Bk w g 5 (qs.map bv).toArray) (hb : base ≤ g) (hl : qs.length ≤ 4096) : w.ownsRow base 5 1 (.slice (some ⟨g, 0, none⟩) qs.length qs.length) qs.length (qs.map bv) := by
  have := Bk.own h (size := 1) (n := qs.length) (c := qs.length) hb (Nat.le_refl _) (by simp only [maxLen]; omega) (by simp)
  rw [List.take_of_length_le (by simp)] at this
  exact this
theorem own_one (w : World) (base b : Nat) (hb : base ≤ w.heap.size) : (w.alloc (.cells #[.int .u8 (b : Int)] 5)).ownsRow base 5 1 (.slice (some ⟨w.heap.size, 0, none⟩) 1 1) [b].length ([b].map bv) :=
  own_bits (qs := [b]) (Bk.new w _ _) hb (by simp)
theorem bits_set (qs : List Nat) (j : Nat) : ((qs.map bv).toArray.setIfInBounds j (.int .u8 1)) = ((qs.set j 1).map bv).toArray := by
  rw [List.setIfInBounds_toArray, List.map_set]; rfl
theorem madeBits (n : Nat) : madeCells #[Value.int .u8 0] n = ((List.replicate n 0).map bv).toArray := by
  apply Array.toList_inj.1
  rw [toList_madeCells_one]
  simp [bv]
theorem drop_set_succ (qs : List Nat) (j x : Nat) : (qs.set j x).drop (j + 1) = qs.drop (j + 1) := by rw [List.drop_set]; simp
theorem val_drop_set (qs : List Nat) (j : Nat) (h : j < qs.length) : val ((qs.set j 1).drop j) = 2 * val (qs.drop (j + 1)) + 1 := by
  rw [val_drop_succ, drop_set_succ]; simp [List.getD, h]
theorem bin_set {qs : List Nat} (h : Bin qs) (j : Nat) : Bin (qs.set j 1) := by
  intro b hb
  rcases List.mem_or_eq_of_mem_set hb with h1 | h1
  · exact h b h1
  · omega
theorem getD_set_lt (qs : List Nat) (i j x : Nat) (h : i < j) : (qs.set j x).getD i 0 = qs.getD i 0 := by
  simp [List.getD, List.getElem?_set, Nat.ne_of_gt h]
def TwoBts (w : World) (x y : Nat) (e : Ending) (w' : World) : Prop := ∃ q r, e = .returned (.tuple #[q, r]) ∧ Bts w' q (bitsOf x) ∧ Bts w' r (bitsOf y) ∧ Below w.heap.size w w'
theorem div_last (a b q r : Nat) (h : a = q * b + r) (hr : r < b) : q = a / b ∧ r = a % b := by
  subst h
  have hb : 0 < b := by omega
  rw [Nat.mul_comm, Nat.mul_add_div hb, Nat.div_eq_of_lt hr, Nat.mul_add_mod, Nat.mod_eq_of_lt hr]
  exact ⟨by omega, rfl⟩
theorem cmpN_ge {x y : Nat} (h : y ≤ x) : cmpN x y = if y < x then 1 else 0 := by unfold cmpN; split; · rfl
                                                                                  · rw [if_neg (by omega)]
theorem cmpN_lt {x y : Nat} (h : x < y) : cmpN x y = -1 := by unfold cmpN; rw [if_neg (by omega), if_pos h]
theorem length_lt_bits {r : Nat} {b : List Nat} (hb : Bin b) (h : r < val b) : (bitsOf r).length ≤ b.length := length_bitsOf_le (Nat.lt_trans h (val_lt hb))
theorem length_double {r x n : Nat} (h : (bitsOf r).length ≤ n) (hx : x < 2) : (bitsOf (2 * r + x)).length ≤ n + 1 := by
  have h1 := (length_bitsOf_iff r n).1 h
  exact length_bitsOf_le (by rw [Nat.pow_succ]; omega)
theorem bits_cell {w : World} {g j : Nat} {qs : List Nat} (h : Bk w g 5 (qs.map bv).toArray) (hj : j < qs.length) : ∃ old, w.cell? ⟨g, j, none⟩ = some old := ⟨_, by rw [h.cell j]; simp [hj]; rfl⟩
/-- The comparison, as the division asks it. -/
theorem cmp_ge_any (x : Nat) (b : List Nat) (u v : Value) (w : World) (hlx : (bitsOf x).length ≤ 2000) (hlb : b.length ≤ 2000) (hbb : Bin b) (hu : Bts w u (bitsOf x)) (hv : Bts w v b) :
    Calls Try.prog 53 #[u, v] w fun e w' => ∃ s : Int, e = .returned (.int .i64 s) ∧ (val b ≤ x → 0 ≤ s) ∧ (x < val b → s = -1) ∧ w = w' := by
  refine (cmp_any (bitsOf x) b u v w hlx hlb (bin_bitsOf x) hbb hu hv).mono ?_
  rintro e w' ⟨rfl, rfl⟩
  rw [val_bitsOf]
  refine ⟨_, rfl, fun h => ?_, cmpN_lt, rfl⟩
  rw [cmpN_ge h]
  split <;> omega

set_option maxHeartbeats 400000 in
theorem div_any (a b : List Nat) (u v : Value) (w : World) (hla : a.length ≤ 900) (hlb : b.length ≤ 900) (hba : Bin a) (hbb : Bin b) (ha : Bts w u a) (hb : Bts w v b) (hpos : 0 < val b) :
    Calls Try.prog 54 #[u, v] w (TwoBts w (val a / val b) (val a % val b)) := by
  obtain ⟨A, c, rfl, hc⟩ := ha.form
  have hmk := fun (W : World) => run_make_row' (P := Try.prog) 106 5 (.int .u8 0) 1 Try.underlying106 info_u8 rfl .i64 .i64 a.length (by omega) (by omega) W
  go_enter Try.func54, Try.ntmps54
  go_wp2_with fail
  go_loopw [7, 8] (fun rest i wr => ∃ (k : Nat) (qs : List Nat) (r : Nat), k ≤ a.length ∧ i = .int .i64 ((k : Int) - 1) ∧ Bk wr w.heap.size 5 (qs.map bv).toArray ∧ qs.length = a.length ∧ Bin qs ∧ (∀ j, j < k → qs.getD j 0 = 0) ∧
      wr.ownsRow (w.heap.size + 1) 5 1 rest (bitsOf r).length ((bitsOf r).map bv) ∧ Below w.heap.size w wr ∧ w.heap.size + 1 ≤ wr.heap.size ∧ val (a.drop k) = val (qs.drop k) * val b + r ∧ r < val b)
    (fun _ i _ => (intOf i + 1).toNat)
  case atStart =>
    refine ⟨a.length, List.replicate a.length 0, 0, Nat.le_refl _, rfl, ?_, by simp, ?_, ?_, ?_, ((Below.refl _ _).alloc (Nat.le_refl _) _).alloc (by simp) _, by simp, by rw [List.drop_length, List.drop_eq_nil_of_le (by simp)]; simp [val], hpos⟩
    · rw [madeBits]
      exact (Bk.new w _ _).alloc _
    · intro x hx; have := List.eq_of_mem_replicate hx; omega
    · intro j hj; simp [List.getD, hj]
    · rw [bitsOf_zero]
      have := own_empty (w.alloc (.cells (madeCells #[Value.int .u8 0] a.length) 5)) (w.heap.size + 1) (by simp)
      simpa using this
  case round =>
    obtain ⟨k, qs, r, hk, rfl, hq, hql, hqb, hq0, hown, hbw, hsz, hv, hr⟩ := hrel
    have HQ := Lib.hid hql
    have HV := Lib.hid hv
    have HZ := Lib.hid hq0
    clear hql hv hq0 hmk
    rcases k with _ | j
    · have e1 := div_last (val a) (val b) (val qs) r (by simpa using HV.out) hr
      go_wp2_with fail
      refine (trimmed_any qs _ wr (by have := HQ.out; omega) hqb (by have := Bts.of_own (own_bits hq (Nat.le_refl _) (by have := HQ.out; omega)); rw [HQ.out] at this; unfold Bts; rw [HQ.out]; unfold Bts at this; rw [HQ.out] at this; exact this)).mono ?_
      rintro e w4 ⟨v4, rfl, hv4, rfl⟩
      go_wp2_with fail
      go_ret2
      exact ⟨_, _, rfl, by rw [← e1.1]; exact hv4, by rw [← e1.2]; exact Bts.of_own hown, hbw⟩
    · obtain ⟨ad, rfl, hblk, hcell⟩ := (ha.below hbw).cellb (k := j) (by omega)
      have hx := hba.getD j
      have hlr := length_lt_bits hbb hr
      have e1 : ((j + 1 : Nat) : Int) - 1 = j := by omega
      have HR := Lib.hid (val_drop_succ a j)
      rw [e1]
      generalize a.getD j 0 = x at *
      have HD := Lib.hid (div_step _ (val b) _ r x _ HV.out hr HR.out hx)
      clear e1
      have ex : val (x :: bitsOf r) = 2 * r + x := by rw [val, val_bitsOf]; omega
      have hbx : Bin (x :: bitsOf r) := by
        intro y hy
        rcases List.mem_cons.1 hy with rfl | hy
        · exact hx
        · exact bin_bitsOf r y hy
      have HX := Lib.hid ex
      clear ex
      go_wp2_with (at_builtin; go_must (refine wpl_cat rfl (.tmp 24) (.tmp 25) rfl (own_one wr (w.heap.size + 1) x hsz) ((Bts.of_own hown).alloc _) (hbw.alloc (by omega) _) (by omega) (by simp; omega) (by simp; omega) rfl rfl ?_); intro v1 w1 hown1 hbw1 hsz1 hg1)
      have hq1 : Bk w1 w.heap.size 5 (qs.map bv).toArray := (hq.alloc _).grown hg1 (by simp [Value.ownBlock]; omega)
      refine (trim_own (x :: bitsOf r) _ w1 _ (by simp; omega) hbx hown1).mono ?_
      rintro e w2 ⟨v2, rfl, hown2, rfl⟩
      rw [HX.out] at hown2
      have hl2 : (bitsOf (2 * r + x)).length ≤ 1000 := by
        have := length_double hlr hx
        omega
      go_wp2_with fail
      refine (cmp_ge_any (2 * r + x) b _ _ w1 (by omega) (by omega) hbb (Bts.of_own hown2) (hb.below hbw1)).mono ?_
      rintro e w2 ⟨sg, rfl, hs1, hs2, rfl⟩
      have HS1 := Lib.hid hs1
      have HS2 := Lib.hid hs2
      clear hs1 hs2
      by_cases hge : val b ≤ 2 * r + x
      · have hs : 0 ≤ sg := HS1.out hge
        have HD1 := Lib.hid (HD.out.1 hge)
        go_wp2_with (go_at_call 75; refine (sub_any (bitsOf (2 * r + x)) b _ _ w1 (by omega) (by omega) (bin_bitsOf _) hbb (Bts.of_own hown2) (hb.below hbw1) (by rw [val_bitsOf]; exact hge)).mono ?_; rintro e w3 ⟨v3, rfl, hown3, hb3⟩; rw [val_bitsOf] at hown3; have hq3 := hq1.below' hb3; obtain ⟨old, hqc⟩ := bits_cell (j := j) hq3 (by have := HQ.out; omega); have hqf := hq3.frozen j)
        go_roundw
        case rel =>
          refine ⟨j, qs.set j 1, 2 * r + x - val b, by omega, rfl, ?_, by rw [List.length_set]; exact HQ.out, bin_set hqb j, fun i hi => ?_, ?_, (hbw1.trans (hb3.mono (by omega))).setCell (by simp) _, by simp [World.setCell]; have := hb3.size; omega, ?_, HD1.out.2⟩
          · rw [← bits_set]
            exact hq3.set j _
          · rw [getD_set_lt _ _ _ _ hi]
            exact HZ.out i (by omega)
          · exact ownsRow_setCell_below (own_mono hown3 (by omega)) (by simp) _
          · rw [val_drop_set _ _ (by have := HQ.out; omega)]
            exact HD1.out.1
        case measure => simp [intOf]
      · have hs : sg = -1 := HS2.out (by omega)
        subst hs
        have HD2 := Lib.hid (HD.out.2 (by omega))
        go_wp2_with fail
        go_roundw
        case rel => exact ⟨j, qs, 2 * r + x, by omega, rfl, hq1, HQ.out, hqb, fun i hi => HZ.out i (by omega), hown2, hbw1, hsz1, by have h0 := HZ.out j (by omega); rw [HD2.out, val_drop_succ qs j, h0]; rfl, by omega⟩
        case measure => simp [intOf]
end Go.Proofs.Ytalmhnimmhgloaa
