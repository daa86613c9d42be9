/-
  The walks of the reference's functions on lists of bits (package trimtabref01): each returns what the plain arithmetic of Bits says, for lists of at most 4096 bits; nothing that was there turns.
-/
import Derived.Test.YtalmhnimmhgloaaProg
import Derived.Test.YtalmhnimmhgloaaMem
import Derived.Test.YtalmhnimmhgloaaBits
namespace Go.Proofs.Ytalmhnimmhgloaa
open Go.RowKit Go.Proofs.Mem Go.Proofs.Bit
set_option linter.unusedVariables false
set_option linter.unusedSimpArgs false

def bv (b : Nat) : Value := .int .u8 (b : Int)
/-- A slice of bytes that reads as a list of numbers. -/
def Bts (w : World) (v : Value) (l : List Nat) : Prop := Sl w 1 v l.length (l.map bv)

section
variable {w w' : World} {v : Value} {l : List Nat}
theorem Bts.below (h : Bts w v l) (hb : Below w.heap.size w w') : Bts w' v l := Sl.below h hb
theorem Bts.drew (h : Bts w v l) : Bts w.drew v l := h
theorem Bts.alloc (h : Bts w v l) (o : Obj) : Bts (w.alloc o) v l := Sl.alloc h o
theorem Bts.form (h : Bts w v l) : ∃ A c, v = .slice A l.length c ∧ l.length ≤ c := by
  obtain ⟨A, c, e, hc, _⟩ := h
  exact ⟨A, c, e, hc⟩
theorem Bts.cell {A : Option Addr} {m c k : Nat} (h : Bts w (.slice A m c) l) (hk : k < l.length) : ∃ ad, A = some ad ∧ w.cell? (ad.add k) = some (.int .u8 ((l.getD k 0 : Nat) : Int)) := by
  obtain ⟨ad, e, _, hc⟩ := Sl.cell1 (k := k) (u := bv (l.getD k 0)) h (by simp [List.getD, hk])
  exact ⟨ad, e, hc⟩
theorem Bts.cellb {A : Option Addr} {m c k : Nat} (h : Bts w (.slice A m c) l) (hk : k < l.length) : ∃ ad, A = some ad ∧ ad.block < w.heap.size ∧ w.cell? (ad.add k) = some (.int .u8 ((l.getD k 0 : Nat) : Int)) :=
  Sl.cell1 (k := k) (u := bv (l.getD k 0)) h (by simp [List.getD, hk])
theorem Bts.take {A : Option Addr} {c k : Nat} (h : Bts w (.slice A l.length c) l) (hk : k ≤ l.length) : Bts w (.slice A k c) (l.take k) := by
  have := Sl.take (k := k) h hk
  unfold Bts
  rw [List.length_take, Nat.min_eq_left hk, List.map_take]
  simpa using this
theorem Bts.of_own {base : Nat} (h : w.ownsRow base 5 1 v l.length (l.map bv)) : Bts w v l := Sl.of_own h
theorem Bts.one (w : World) (b : Nat) : Bts (w.alloc (.cells #[.int .u8 (b : Int)] 5)) (.slice (some ⟨w.heap.size, 0, none⟩) 1 1) [b] := Sl.made w _ _ 1 1 (Nat.le_refl _) rfl
theorem bv_one (l : List Nat) : ∀ u ∈ l.map bv, u.oneCell' = true := int_one _ _ l
theorem own_empty (w : World) (base : Nat) (hb : base ≤ w.heap.size) : (w.alloc (.cells #[] 5)).ownsRow base 5 1 (.slice (some ⟨w.heap.size, 0, none⟩) 0 0) ([] : List Nat).length (([] : List Nat).map bv) :=
  ⟨rfl, .inr ⟨w.heap.size, 0, #[], rfl, hb, heap_alloc_new w _, Nat.le_refl _, Nat.zero_le _, rfl, rfl⟩⟩
end

theorem info_u8 : (Try.prog.info? 5).map (fun i => (i.zero, i.size, i.bytes)) = some (some (.int .u8 0), 1, 1) := by kernel_rfl

theorem at_any (l : List Nat) (v : Value) (i : Nat) (w : World) (hl : l.length ≤ 4096) (hi : i ≤ 4096) (h : Bts w v l) :
    Calls Try.prog 73 #[v, .int .i64 i] w fun e w' => e = .returned (.int .u8 ((l.getD i 0 : Nat) : Int)) ∧ w = w' := by
  obtain ⟨A, c, rfl, hc⟩ := h.form
  by_cases hlt : i < l.length
  · obtain ⟨ad, rfl, hcell⟩ := h.cell hlt
    generalize l.getD i 0 = x at *
    go_enter Try.func73, Try.ntmps73
    go_wp2
    go_ret
    exact ⟨rfl, rfl⟩
  · have e : l.getD i 0 = 0 := by simp [List.getD, hlt]
    rw [e]
    go_enter Try.func73, Try.ntmps73
    go_wp2
    go_ret
    exact ⟨rfl, rfl⟩

theorem trim_take (l : List Nat) (j : Nat) (hj : j < l.length) (h0 : l.getD j 0 = 0) : Bit.trim (l.take (j + 1)) = Bit.trim (l.take j) := by
  rw [take_succ_snoc l j hj, h0, trim_snoc_zero]
theorem trim_done (l : List Nat) (hb : Bin l) (j : Nat) (hj : j < l.length) (h0 : l.getD j 0 ≠ 0) : Bit.trim (l.take (j + 1)) = l.take (j + 1) := by
  refine bitsOf_val (hb.take _) fun b hb' => ?_
  rw [take_succ_snoc l j hj, List.getLast?_append] at hb'
  simp at hb'
  simpa [List.getD] using hb' ▸ (by simpa [List.getD] using h0)
def SomeBts (w : World) (r : List Nat) (e : Ending) (w' : World) : Prop := ∃ v', e = .returned v' ∧ Bts w v' r ∧ w = w'
/-- What 'trim' hands back: the same slice, shorter. -/
def Shorter (w : World) (A : Option Addr) (c : Nat) (l : List Nat) (e : Ending) (w' : World) : Prop := ∃ k, e = .returned (.slice A k c) ∧ k ≤ l.length ∧ Bit.trim l = l.take k ∧ w = w'
theorem trim_core (l : List Nat) (A : Option Addr) (c : Nat) (w : World) (hl : l.length ≤ 4096) (hb : Bin l) (h : Bts w (.slice A l.length c) l) :
    Calls Try.prog 74 #[.slice A l.length c] w (Shorter w A c l) := by
  have hc : l.length ≤ c := (Sl.parts h).2.1
  go_enter Try.func74, Try.ntmps74
  go_wp2
  go_loop [0] (fun v => ∃ k : Nat, k ≤ l.length ∧ v = .slice A k c ∧ Bit.trim (l.take k) = Bit.trim l) (fun v => match v with | .slice _ k _ => k | _ => 0)
  case atStart => exact ⟨l.length, Nat.le_refl _, rfl, by simp⟩
  case round =>
    obtain ⟨k, hk, rfl, ht⟩ := hrel
    have HT := Lib.hid ht
    clear ht
    rcases k with _ | j
    · go_wp2
      go_ret
      exact ⟨0, rfl, Nat.zero_le _, by rw [← HT.out]; simp [Bit.trim, Bit.val, bitsOf_zero], rfl⟩
    · obtain ⟨ad, rfl, hcell⟩ := h.cell (k := j) (by omega)
      have H1 := Lib.hid (trim_take l j (by omega))
      have H2 := Lib.hid (trim_done l hb j (by omega))
      clear h
      generalize l.getD j 0 = x at *
      go_wp2
      · have h0 : x = 0 := by have hx : ((x : Int) == 0) = true := by assumption
                              simpa using hx
        go_round
        case rel => exact ⟨j, by omega, rfl, by rw [← H1.out h0]; exact HT.out⟩
        case measure => exact Nat.lt_succ_self j
      · have h0 : x ≠ 0 := by have hx : ((x : Int) == 0) = false := by assumption
                              intro e; subst e; simp at hx
        go_ret
        exact ⟨j + 1, rfl, hk, by rw [← HT.out, H2.out h0], rfl⟩
theorem trim_any (l : List Nat) (v : Value) (w : World) (hl : l.length ≤ 4096) (hb : Bin l) (h : Bts w v l) :
    Calls Try.prog 74 #[v] w (SomeBts w (Bit.trim l)) := by
  obtain ⟨A, c, rfl, hc⟩ := h.form
  refine (trim_core l A c w hl hb h).mono ?_
  rintro e w' ⟨k, rfl, hk, ht, rfl⟩
  exact ⟨_, rfl, by rw [ht]; exact h.take hk, rfl⟩

/-- What a call leaves that makes a list: a row of the call's own; nothing old turned. -/
def OwnBts (w : World) (r : List Nat) (e : Ending) (w' : World) : Prop := ∃ v', e = .returned v' ∧ w'.ownsRow w.heap.size 5 1 v' r.length (r.map bv) ∧ Below w.heap.size w w'
theorem trim_own (l : List Nat) (v : Value) (w : World) (base : Nat) (hl : l.length ≤ 4096) (hb : Bin l) (h : w.ownsRow base 5 1 v l.length (l.map bv)) :
    Calls Try.prog 74 #[v] w fun e w' => ∃ v', e = .returned v' ∧ w.ownsRow base 5 1 v' (bitsOf (val l)).length ((bitsOf (val l)).map bv) ∧ w = w' := by
  obtain ⟨A, c, rfl, hc⟩ := (Bts.of_own h).form
  refine (trim_core l A c w hl hb (Bts.of_own h)).mono ?_
  rintro e w' ⟨k, rfl, hk, ht, rfl⟩
  refine ⟨_, rfl, ?_, rfl⟩
  have e : bitsOf (val l) = l.take k := ht
  rw [e, List.length_take, Nat.min_eq_left hk]
  obtain ⟨hl', h2⟩ := h
  refine ⟨by simp [hk], ?_⟩
  rcases h2 with ⟨hv, h0⟩ | ⟨g, cap, cur, hv, hg, hh, hnc, hcm, hcs, htake⟩
  · injection hv with h1 h2 h3
    subst h1; subst h3
    obtain rfl : k = 0 := by omega
    exact .inl ⟨rfl, rfl⟩
  · injection hv with h1 h2 h3
    subst h1; subst h3
    refine .inr ⟨g, _, cur, rfl, hg, hh, by omega, hcm, hcs, ?_⟩
    have e3 := congrArg (List.take (k * 1)) htake
    rw [List.take_take] at e3
    rw [Nat.min_eq_left (by omega)] at e3
    rw [e3, List.map_take, Nat.mul_one]

/-- What a call leaves that makes a list: a slice that reads as it, in memory of its own or old; nothing old turned. -/
def NewBts (w : World) (r : List Nat) (e : Ending) (w' : World) : Prop := ∃ v', e = .returned v' ∧ Bts w' v' r ∧ Below w.heap.size w w'

/-- 'out = append(out, b)' in a walk: one bit more. -/
theorem wpl_push {w : World} {ops : Array Oper} {rest : List Oper} {o : Oper} {a : Act} {Q : Exit → Act → World → Prop} (hgd : o.guard = none) (s x : Operand)
    (ho : o.op = .call { callee := .builtin .append, args := #[s, x], argTypes := #[106, 106] }) {base B : Nat} {W : World} {v : Value} {l : List Nat} (hown : w.ownsRow base 5 1 v l.length (l.map bv)) (b : Nat)
    (hbw : Below B W w) (hB : B ≤ base) (hb : base ≤ w.heap.size) (hl : l.length ≤ 4096) (hs : a.eval s = v) (hx : a.eval x = .slice (some ⟨w.heap.size, 0, none⟩) 1 1) (z : Int) (hz : z = (b : Int))
    (h : ∀ v' w', w'.ownsRow base 5 1 v' (l ++ [b]).length ((l ++ [b]).map bv) → Below B W w' → base ≤ w'.heap.size → wpList Try.prog ops Q rest (a.put o.dst v') w') :
    wpList Try.prog ops Q (o :: rest) a (w.alloc (.cells #[.int .u8 z] 5)) := by
  subst hz
  refine wpl_append hgd s x _ ho base 5 _ 1 1 Try.underlying106 info_u8 rfl (by omega) (by omega) v _ _ hs (hown.alloc _) _ 1 [bv b] hx (Bts.one w b) (by intro u hu; simp at hu; subst hu; rfl) (by omega) (by simp; omega) ?_
  intro v' w' h1 h2 _
  have hb1 : Below B W (w.alloc (.cells #[.int .u8 (b : Int)] 5)) := hbw.alloc (by omega) _
  refine h v' w' (by simpa using h1) (below_grown hb1 (hown.alloc _) h2 (by simp; omega) hB) ?_
  have := h2.size
  simp at this
  omega

theorem of_rel (x y : Nat) (o : List Nat) (h : bitsOf x = o ++ bitsOf y) (hy : 0 < y) : bitsOf x = (o ++ [y % 2]) ++ bitsOf (y / 2) := by
  rw [h, bitsOf_pos hy]; simp
theorem of_own (x : Nat) (w : World) (hx : x < 18446744073709551616) :
    Calls Try.prog 52 #[.int .u64 x] w (OwnBts w (bitsOf x)) := by
  have hlen : (bitsOf x).length ≤ 64 := length_bitsOf_le (by omega)
  go_enter Try.func52, Try.ntmps52
  go_wp2_with fail
  go_loopw [0, 3] (fun u v wr => ∃ (y : Nat) (o : List Nat), y ≤ x ∧ u = .int .u64 y ∧ wr.ownsRow w.heap.size 5 1 v o.length (o.map bv) ∧ Below w.heap.size w wr ∧ bitsOf x = o ++ bitsOf y)
    (fun u _ _ => (intOf u).toNat)
  case atStart => exact ⟨x, [], Nat.le_refl _, rfl, own_empty w _ (Nat.le_refl _), (Below.refl _ _).alloc (Nat.le_refl _) _, rfl⟩
  case round =>
    obtain ⟨y, o, hy, rfl, hown, hbw, hbits⟩ := hrel
    have ho : o.length ≤ 64 := by rw [hbits, List.length_append] at hlen; omega
    by_cases h0 : 0 < y
    · have H := Lib.hid (of_rel x y o hbits h0)
      clear hbits
      have hsz := hbw.size
      go_wp2_with (at_builtin; refine wpl_push rfl _ _ rfl hown (y % 2) hbw (Nat.le_refl _) hsz (by omega) rfl rfl _ (by omega) ?_; intro v' w' hown' hbw' hsz')
      go_roundw
      case rel => exact ⟨y / 2, _, by omega, by go_num, hown', hbw', H.out⟩
      case measure => simp [intOf]; omega
    · obtain rfl : y = 0 := by omega
      rw [bitsOf_zero, List.append_nil] at hbits
      have H := Lib.hid hbits
      clear hbits
      go_wp2
      go_ret
      exact ⟨_, rfl, by rw [H.out]; exact hown, hbw⟩
theorem of_any (x : Nat) (w : World) (hx : x < 18446744073709551616) :
    Calls Try.prog 52 #[.int .u64 x] w (NewBts w (bitsOf x)) :=
  (of_own x w hx).mono fun e w' ⟨v, he, h, hb⟩ => ⟨v, he, Bts.of_own h, hb⟩

theorem number_rel (m n x y : Nat) (hy : m % 18446744073709551616 = y) (h : n = 2 * m + x) : Value.int .u64 (IntKind.u64.wrap (IntKind.u64.wrap ((y : Int) * 2) + (x : Int))) = .int .u64 ((n % 18446744073709551616 : Nat) : Int) := by
  rw [IntKind.wrap_u64, IntKind.wrap_u64]
  have e : ((y : Int) * 2 % 18446744073709551616 + (x : Int)) % 18446744073709551616 = ((n % 18446744073709551616 : Nat) : Int) := by omega
  rw [e]
theorem number_any (l : List Nat) (v : Value) (w : World) (hl : l.length ≤ 4096) (hb : Bin l) (h : Bts w v l) :
    Calls Try.prog 55 #[v] w fun e w' => e = .returned (.tuple #[.int .u64 ((val l % 18446744073709551616 : Nat) : Int), .bool (decide ((l.length : Int) ≤ 64))]) ∧ w = w' := by
  obtain ⟨A, c, rfl, hc⟩ := h.form
  go_enter Try.func55, Try.ntmps55
  go_wp2_with fail
  go_loop [4, 5] (fun o i => ∃ k : Nat, k ≤ l.length ∧ i = .int .i64 ((k : Int) - 1) ∧ o = .int .u64 ((val (l.drop k) % 18446744073709551616 : Nat) : Int)) (fun _ i => (intOf i + 1).toNat)
  case atStart => exact ⟨l.length, Nat.le_refl _, rfl, by rw [List.drop_length]; rfl⟩
  case round =>
    obtain ⟨k, hk, rfl, rfl⟩ := hrel
    rcases k with _ | j
    · go_wp2
      go_ret2
      exact ⟨rfl, rfl⟩
    · obtain ⟨ad, rfl, hcell⟩ := h.cell (k := j) (by omega)
      have hx := hb.getD j
      have e1 : ((j + 1 : Nat) : Int) - 1 = j := by omega
      have H := Lib.hid (val_drop_succ l j)
      generalize l.getD j 0 = x at *
      generalize hy : val (l.drop (j + 1)) % 18446744073709551616 = y at *
      have hyb : y < 18446744073709551616 := by omega
      have HY := Lib.hid hy
      clear hy hb h
      rw [e1]
      clear e1
      go_wp2
      go_round
      case rel => exact ⟨j, by omega, rfl, number_rel _ _ _ _ HY.out H.out⟩
      case measure => simp [intOf]

theorem add_rel (a b o : List Nat) (k x y cy : Nat) (ho : o.length = k) (hx : a.getD k 0 = x) (hy : b.getD k 0 = y) (h : val o + 2 ^ k * cy = val (a.take k) + val (b.take k)) :
    val (o ++ [(x + y + cy) % 2]) + 2 ^ (k + 1) * ((x + y + cy) / 2) = val (a.take (k + 1)) + val (b.take (k + 1)) := by
  rw [val_snoc, ho, val_take_succ, val_take_succ, hx, hy, Nat.pow_succ, Nat.mul_assoc, Nat.add_assoc, ← Nat.mul_add, Nat.mod_add_div, Nat.mul_add, Nat.mul_add]
  omega
theorem bin_push {o : List Nat} (h : Bin o) (x : Nat) : Bin (o ++ [x % 2]) := h.append (Bin.one (Nat.mod_lt _ (by omega)))
theorem getD_ge (a : List Nat) (k : Nat) (h : a.length ≤ k) : a.getD k 0 = 0 := by simp [List.getD, h]
theorem add_any (a b : List Nat) (u v : Value) (w : World) (hla : a.length ≤ 2000) (hlb : b.length ≤ 2000) (hba : Bin a) (hbb : Bin b) (ha : Bts w u a) (hb : Bts w v b) :
    Calls Try.prog 56 #[u, v] w (OwnBts w (bitsOf (val a + val b))) := by
  obtain ⟨A, c, rfl, hc⟩ := ha.form
  obtain ⟨B, d, rfl, hd⟩ := hb.form
  go_enter Try.func56, Try.ntmps56
  go_wp2_with fail
  go_loopw [5, 6, 7] (fun out cr i wr => ∃ (k cy : Nat) (o : List Nat), k + cy ≤ max a.length b.length + 1 ∧ cy ≤ 1 ∧ i = .int .i64 k ∧ cr = .int .u8 cy ∧ wr.ownsRow w.heap.size 5 1 out o.length (o.map bv) ∧ Below w.heap.size w wr ∧
      o.length = k ∧ Bin o ∧ val o + 2 ^ k * cy = val (a.take k) + val (b.take k))
    (fun _ _ i _ => (max a.length b.length + 1) - (intOf i).toNat)
  case atStart => exact ⟨0, 0, [], by omega, by omega, rfl, rfl, own_empty w _ (Nat.le_refl _), (Below.refl _ _).alloc (Nat.le_refl _) _, rfl, Bin.nil, by simp [val]⟩
  case round =>
    obtain ⟨k, cy, o, hk, hcy, rfl, rfl, hown, hbw, ho, hbo, hval⟩ := hrel
    have HA := Lib.hid (at_any a _ k wr (by omega) (by omega) (ha.below hbw))
    have HB := Lib.hid (at_any b _ k wr (by omega) (by omega) (hb.below hbw))
    have HR := Lib.hid (fun x y hx hy => add_rel a b o k x y cy ho hx hy hval)
    have hx := hba.getD k
    have hy := hbb.getD k
    have hsz := hbw.size
    have HO := Lib.hid ho
    have HV := Lib.hid hval
    clear ho hval
    have h4 : k < a.length ∨ (¬ k < a.length ∧ k < b.length) ∨ (¬ k < a.length ∧ ¬ k < b.length ∧ 0 < cy) ∨ (¬ k < a.length ∧ ¬ k < b.length ∧ cy = 0) := by omega
    have HZ := Lib.hid (getD_ge a k)
    have HZ' := Lib.hid (getD_ge b k)
    generalize hxe : a.getD k 0 = x at *
    generalize hye : b.getD k 0 = y at *
    have HX := Lib.hid hxe
    have HY := Lib.hid hye
    clear hxe hye
    rcases h4 with h4 | ⟨h4, h5⟩ | ⟨h4, h5, h6⟩ | ⟨h4, h5, rfl⟩
    case inr.inr.inr =>
      have e := val_take_all a k (by omega)
      have e' := val_take_all b k (by omega)
      have e2 : val o = val a + val b := by have := HV.out; rw [e, e'] at this; omega
      go_wp2_with (go_at_call 74; refine (trim_own o _ wr _ (by have := HO.out; omega) hbo hown).mono ?_; rintro e w1 ⟨v1, rfl, hv1, rfl⟩)
      go_ret
      exact ⟨_, rfl, by rw [← e2]; exact hv1, hbw⟩
    all_goals
      go_wp2_with (first
        | (go_at_call 73; (with_reducible refine (HA.out).mono ?_); rintro e w' ⟨rfl, rfl⟩)
        | (go_at_call 73; (with_reducible refine (HB.out).mono ?_); rintro e w' ⟨rfl, rfl⟩)
        | (at_builtin; go_must (refine wpl_push rfl _ _ rfl hown ((x + y + cy) % 2) hbw (Nat.le_refl _) hsz (by have := HO.out; omega) rfl rfl _ (by omega) ?_); intro v' w' hown' hbw' hsz'))
      go_roundw
      case rel => exact ⟨k + 1, (x + y + cy) / 2, _, by have := HZ.out; have := HZ'.out; omega, by omega, by go_num, by go_num, hown', hbw', by simp [HO.out], bin_push hbo _, HR.out x y rfl rfl⟩
      case measure => simp [intOf]; omega

def cmpN (x y : Nat) : Int := if y < x then 1 else if x < y then -1 else 0
theorem cmp_gt (a b : List Nat) (k x y : Nat) (hx : a.getD k 0 = x) (hy : b.getD k 0 = y) (ha : Bin a) (hb : Bin b) (h : val (a.drop (k + 1)) = val (b.drop (k + 1))) (hxy : y < x) : cmpN (val a) (val b) = 1 := by
  unfold cmpN
  have e1 := val_split a k; have e2 := val_split b k
  rw [hx] at e1; rw [hy] at e2
  have l1 := val_lt (ha.take k); have l2 := val_take_lt hb k
  have e3 : 2 ^ k * y + 2 ^ k ≤ 2 ^ k * x := by rw [← Nat.mul_succ]; exact Nat.mul_le_mul_left _ hxy
  rw [if_pos (by rw [e1, e2, h]; omega)]
theorem cmp_lt (a b : List Nat) (k x y : Nat) (hx : a.getD k 0 = x) (hy : b.getD k 0 = y) (ha : Bin a) (hb : Bin b) (h : val (a.drop (k + 1)) = val (b.drop (k + 1))) (hxy : x < y) : cmpN (val a) (val b) = -1 := by
  have := cmp_gt b a k y x hy hx hb ha h.symm hxy
  unfold cmpN at this ⊢
  split at this
  · rw [if_neg (by omega), if_pos (by omega)]
  · split at this <;> simp at this
theorem cmp_step (a b : List Nat) (k : Nat) (h : val (a.drop (k + 1)) = val (b.drop (k + 1))) (hxy : a.getD k 0 = b.getD k 0) : val (a.drop k) = val (b.drop k) := by
  rw [val_drop_succ a k, val_drop_succ b k, h, hxy]
theorem cmp_same (a b : List Nat) (h : val a = val b) : cmpN (val a) (val b) = 0 := by unfold cmpN; rw [if_neg (by omega), if_neg (by omega)]
theorem cmp_start (a b : List Nat) (k : Nat) (ha : a.length ≤ k) (hb : b.length ≤ k) : val (a.drop k) = val (b.drop k) := by
  rw [List.drop_eq_nil_of_le ha, List.drop_eq_nil_of_le hb]
theorem cmp_any (a b : List Nat) (u v : Value) (w : World) (hla : a.length ≤ 2000) (hlb : b.length ≤ 2000) (hba : Bin a) (hbb : Bin b) (ha : Bts w u a) (hb : Bts w v b) :
    Calls Try.prog 53 #[u, v] w fun e w' => e = .returned (.int .i64 (cmpN (val a) (val b))) ∧ w = w' := by
  obtain ⟨A, c, rfl, hc⟩ := ha.form
  obtain ⟨B, d, rfl, hd⟩ := hb.form
  obtain ⟨m, hm, hma, hmb⟩ : ∃ m, (a.length < b.length ∧ m = b.length ∨ ¬ a.length < b.length ∧ m = a.length) ∧ a.length ≤ m ∧ b.length ≤ m := by
    by_cases h : a.length < b.length
    · exact ⟨_, .inl ⟨h, rfl⟩, by omega, by omega⟩
    · exact ⟨_, .inr ⟨h, rfl⟩, by omega, by omega⟩
  have H0 := Lib.hid (cmp_start a b m hma hmb)
  have HS := Lib.hid (cmp_same a b)
  rcases hm with ⟨hm, rfl⟩ | ⟨hm, rfl⟩
  all_goals
    go_enter Try.func53, Try.ntmps53
    go_wp2_with fail
    go_loop [5] (fun i => ∃ k : Nat, k ≤ a.length + b.length ∧ i = .int .i64 ((k : Int) - 1) ∧ val (a.drop k) = val (b.drop k)) (fun i => (intOf i + 1).toNat)
    case atStart => exact ⟨_, by first | exact Nat.le_add_left _ _ | exact Nat.le_add_right _ _, rfl, H0.out⟩
    case round =>
      obtain ⟨k, hk, rfl, hv⟩ := hrel
      rcases k with _ | j
      · have HV := Lib.hid hv
        clear hv
        go_wp2
        go_ret
        exact ⟨ret_int (HS.out (by simpa using HV.out)).symm, rfl⟩
      · have e1 : ((j + 1 : Nat) : Int) - 1 = j := by omega
        have HA := Lib.hid (at_any a _ j w (by omega) (by omega) ha)
        have HB := Lib.hid (at_any b _ j w (by omega) (by omega) hb)
        have HG := Lib.hid (fun x y hx hy => cmp_gt a b j x y hx hy hba hbb hv)
        have HL := Lib.hid (fun x y hx hy => cmp_lt a b j x y hx hy hba hbb hv)
        have HE := Lib.hid (cmp_step a b j hv)
        clear hv
        generalize a.getD j 0 = x at *
        generalize b.getD j 0 = y at *
        rw [e1]
        clear e1
        rcases Nat.lt_trichotomy x y with h3 | h3 | h3
        all_goals
          go_wp2_with (first
            | (go_at_call 73; (with_reducible refine (HA.out).mono ?_); rintro e w' ⟨rfl, rfl⟩)
            | (go_at_call 73; (with_reducible refine (HB.out).mono ?_); rintro e w' ⟨rfl, rfl⟩))
        · go_ret
          exact ⟨ret_int (HL.out x y rfl rfl h3).symm, rfl⟩
        · go_round
          case rel => exact ⟨j, by omega, rfl, HE.out h3⟩
          case measure => simp [intOf]
        · go_ret
          exact ⟨ret_int (HG.out x y rfl rfl h3).symm, rfl⟩

theorem sub_rel (a b o : List Nat) (k x y bo : Nat) (ho : o.length = k) (hx : a.getD k 0 = x) (hy : b.getD k 0 = y) (hx2 : x < 2) (hy2 : y < 2) (hb : bo ≤ 1) (h : val o + val (b.take k) = val (a.take k) + 2 ^ k * bo) :
    val (o ++ [(2 + x - y - bo) % 2]) + val (b.take (k + 1)) = val (a.take (k + 1)) + 2 ^ (k + 1) * (1 - (2 + x - y - bo) / 2) := by
  rw [val_snoc, ho, val_take_succ, val_take_succ, hx, hy, Nat.pow_succ, Nat.mul_assoc]
  have e : bo + (2 + x - y - bo) % 2 + y = x + 2 * (1 - (2 + x - y - bo) / 2) := by omega
  have e2 : 2 ^ k * (bo + (2 + x - y - bo) % 2 + y) = 2 ^ k * (x + 2 * (1 - (2 + x - y - bo) / 2)) := by rw [e]
  rw [Nat.mul_add, Nat.mul_add, Nat.mul_add] at e2
  omega
theorem sub_end (a b o : List Nat) (bo : Nat) (ho : o.length = a.length) (hbo : Bin o) (hba : Bin a) (hbb : Bin b) (h : val o + val (b.take a.length) = val (a.take a.length) + 2 ^ a.length * bo) (hle : val b ≤ val a) : val o = val a - val b := by
  rw [val_take_all a _ (Nat.le_refl _)] at h
  have l1 := val_lt hbo
  have l2 := val_lt hba
  rw [ho] at l1
  have l3 : val b = val (b.take a.length) := by
    rcases Nat.lt_or_ge a.length b.length with h1 | h1
    · have e := val_take_drop b a.length (by omega)
      rcases Nat.eq_zero_or_pos (val (b.drop a.length)) with h0 | h0
      · rw [h0] at e; omega
      · have : 2 ^ a.length * 1 ≤ 2 ^ a.length * val (b.drop a.length) := Nat.mul_le_mul_left _ h0
        omega
    · exact (val_take_all b _ h1).symm
  rcases Nat.eq_zero_or_pos bo with h0 | h0
  · subst h0; omega
  · have : 2 ^ a.length * 1 ≤ 2 ^ a.length * bo := Nat.mul_le_mul_left _ h0
    omega
theorem sub_any (a b : List Nat) (u v : Value) (w : World) (hla : a.length ≤ 2000) (hlb : b.length ≤ 2000) (hba : Bin a) (hbb : Bin b) (ha : Bts w u a) (hb : Bts w v b) (hle : val b ≤ val a) :
    Calls Try.prog 75 #[u, v] w (OwnBts w (bitsOf (val a - val b))) := by
  obtain ⟨A, c, rfl, hc⟩ := ha.form
  obtain ⟨B, d, rfl, hd⟩ := hb.form
  go_enter Try.func75, Try.ntmps75
  go_wp2_with fail
  go_loopw [5, 6, 12] (fun out br i wr => ∃ (k bo : Nat) (o : List Nat), k ≤ a.length ∧ bo ≤ 1 ∧ i = .int .i64 k ∧ br = .int .u8 bo ∧ wr.ownsRow w.heap.size 5 1 out o.length (o.map bv) ∧ Below w.heap.size w wr ∧
      o.length = k ∧ Bin o ∧ val o + val (b.take k) = val (a.take k) + 2 ^ k * bo)
    (fun _ _ i _ => a.length - (intOf i).toNat)
  case atStart => exact ⟨0, 0, [], by omega, by omega, rfl, rfl, own_empty w _ (Nat.le_refl _), (Below.refl _ _).alloc (Nat.le_refl _) _, rfl, Bin.nil, by simp [val]⟩
  case round =>
    obtain ⟨k, bo, o, hk, hbo, rfl, rfl, hown, hbw, ho, hbin, hval⟩ := hrel
    have hx := hba.getD k
    have hy := hbb.getD k
    have HA := Lib.hid (at_any a _ k wr (by omega) (by omega) (ha.below hbw))
    have HB := Lib.hid (at_any b _ k wr (by omega) (by omega) (hb.below hbw))
    have HR := Lib.hid (fun x y hx hy hx2 hy2 => sub_rel a b o k x y bo ho hx hy hx2 hy2 hbo hval)
    have HE := Lib.hid (fun e : k = a.length => sub_end a b o bo (ho.trans e) hbin hba hbb (by rw [← e]; exact hval) hle)
    have hsz := hbw.size
    have HO := Lib.hid ho
    clear ho hval
    by_cases h1 : k < a.length
    · generalize a.getD k 0 = x at *
      generalize b.getD k 0 = y at *
      go_wp2_with (first
        | (go_at_call 73; (with_reducible refine (HA.out).mono ?_); rintro e w' ⟨rfl, rfl⟩)
        | (go_at_call 73; (with_reducible refine (HB.out).mono ?_); rintro e w' ⟨rfl, rfl⟩)
        | (at_builtin; go_must (refine wpl_push rfl _ _ rfl hown ((2 + x - y - bo) % 2) hbw (Nat.le_refl _) hsz (by have := HO.out; omega) rfl rfl _ (by omega) ?_); intro v' w' hown' hbw' hsz'))
      go_roundw
      case rel => exact ⟨k + 1, 1 - (2 + x - y - bo) / 2, _, by omega, by omega, by go_num, by go_num, hown', hbw', by simp [HO.out], bin_push hbin _, HR.out x y rfl rfl hx hy⟩
      case measure => simp [intOf]; omega
    · obtain rfl : k = a.length := by omega
      have e2 := HE.out rfl
      go_wp2_with (go_at_call 74; refine (trim_own o _ wr _ (by have := HO.out; omega) hbin hown).mono ?_; rintro e w1 ⟨v1, rfl, hv1, rfl⟩)
      go_ret
      exact ⟨_, rfl, by rw [← e2]; exact hv1, hbw⟩

theorem mul_rel (n m x : Nat) (hx : n = 2 * m + x) (z : Nat) : n * z = 2 * (m * z) + x * z := by subst hx; rw [Nat.add_mul, Nat.mul_assoc]
theorem length_mul {x y n m : Nat} (hx : x < 2 ^ n) (hy : y < 2 ^ m) : (bitsOf (x * y)).length ≤ n + m := by
  refine length_bitsOf_le ?_
  rw [Nat.pow_add]
  exact Nat.mul_lt_mul'' hx hy
theorem length_add {x y n : Nat} (hx : (bitsOf x).length ≤ n) (hy : (bitsOf y).length ≤ n) : (bitsOf (x + y)).length ≤ n + 1 := by
  have h1 := (length_bitsOf_iff x n).1 hx
  have h2 := (length_bitsOf_iff y n).1 hy
  exact length_bitsOf_le (by rw [Nat.pow_succ]; omega)
theorem mul_any (a b : List Nat) (u v : Value) (w : World) (hla : a.length ≤ 900) (hlb : b.length ≤ 900) (hba : Bin a) (hbb : Bin b) (ha : Bts w u a) (hb : Bts w v b) :
    Calls Try.prog 51 #[u, v] w (NewBts w (bitsOf (val a * val b))) := by
  obtain ⟨B, d, rfl, hd⟩ := hb.form
  have hlen : ∀ k, (bitsOf (val (b.drop k) * val a)).length ≤ 1800 := by
    intro k
    have := length_mul (val_lt (hbb.drop k)) (val_lt hba)
    have l3 : (b.drop k).length ≤ 900 := by rw [List.length_drop]; omega
    omega
  have HL := Lib.hid hlen
  clear hlen
  go_enter Try.func51, Try.ntmps51
  go_wp2_with fail
  go_loopw [5, 6] (fun out i wr => ∃ k : Nat, k ≤ b.length ∧ i = .int .i64 ((k : Int) - 1) ∧ Bts wr out (bitsOf (val (b.drop k) * val a)) ∧ Below w.heap.size w wr)
    (fun _ i _ => (intOf i + 1).toNat)
  case atStart => exact ⟨b.length, Nat.le_refl _, rfl, by rw [List.drop_length, val, Nat.zero_mul, bitsOf_zero]; exact Bts.of_own (own_empty w _ (Nat.le_refl _)), (Below.refl _ _).alloc (Nat.le_refl _) _⟩
  case round =>
    obtain ⟨k, hk, rfl, hout, hbw⟩ := hrel
    rcases k with _ | j
    · have H := Lib.hid hout
      clear hout
      go_wp2_with fail
      go_ret
      exact ⟨_, rfl, by have := H.out; rw [List.drop_zero, Nat.mul_comm] at this; exact this, hbw⟩
    · have e1 : ((j + 1 : Nat) : Int) - 1 = j := by omega
      obtain ⟨ad, rfl, hblk, hcell⟩ := (hb.below hbw).cellb (k := j) (by omega)
      have hx := hbb.getD j
      have HR := Lib.hid (mul_rel _ _ _ (val_drop_succ b j) (val a))
      have H1 := Lib.hid (HL.out (j + 1))
      have H2 := Lib.hid (HL.out j)
      generalize b.getD j 0 = x at *
      generalize val (b.drop (j + 1)) * val a = m at *
      have C1 := Lib.hid (add_any (bitsOf m) (bitsOf m) u5 u5 wr (by have := H1.out; omega) (by have := H1.out; omega) (bin_bitsOf _) (bin_bitsOf _) hout hout)
      rw [e1]
      clear e1 hout
      have hx2 : x = 0 ∨ x = 1 := by omega
      clear hx
      rcases hx2 with rfl | rfl
      · go_wp2_with (go_at_call 56; refine C1.out.mono ?_; rintro e w1 ⟨v1, rfl, hv1, hb1⟩; have hcell1 := below_at hb1 hblk hcell)
        go_roundw
        case rel => exact ⟨j, by omega, rfl, by rw [HR.out, Nat.zero_mul, Nat.add_zero, Nat.two_mul]; simpa [val_bitsOf] using Bts.of_own hv1, hbw.trans (hb1.mono hbw.size)⟩
        case measure => simp [intOf]
      · go_wp2_with (first
          | (go_at_call 56; (with_reducible refine C1.out.mono ?_); rintro e w1 ⟨v1, rfl, hv1, hb1⟩; have hcell1 := below_at hb1 hblk hcell; have C2 := Lib.hid (add_any _ a v1 u w1 (by simp only [val_bitsOf]; have := length_add H1.out H1.out; omega) (by omega) (bin_bitsOf _) hba (Bts.of_own hv1) (ha.below (hbw.trans (hb1.mono hbw.size)))))
          | (go_at_call 56; (with_reducible refine C2.out.mono ?_); rintro e w2 ⟨v2, rfl, hv2, hb2⟩))
        go_roundw
        case rel => exact ⟨j, by omega, rfl, by rw [HR.out, Nat.one_mul, Nat.two_mul]; simpa [val_bitsOf] using Bts.of_own hv2, (hbw.trans (hb1.mono hbw.size)).trans (hb2.mono (by have := hbw.size; have := hb1.size; omega))⟩
        case measure => simp [intOf]

end Go.Proofs.Ytalmhnimmhgloaa
