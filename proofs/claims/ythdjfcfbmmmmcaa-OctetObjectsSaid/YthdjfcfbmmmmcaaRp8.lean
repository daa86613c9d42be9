/-
  Reader.Object with a reader: what is read, or nothing. (printed by wip/gen_rp8.py)
-/
import Derived.Test.YthdjfcfbmmmmcaaRp7
import Derived.Test.YthdjfcfbmmmmcaaBig
import Derived.Deep.DeepCutAuto
namespace Go.Proofs.Ythdjfcfbmmmmcaa
open Go.RowKit Go.Proofs.Mem
set_option linter.unusedVariables false
set_option linter.unusedSimpArgs false
/-- An object of which only the kind, the name and the version are known. -/
def ZH (k : Nat) (n : ByteArray) (v : Nat) : Array Value := #[.int .i64 k, .string n, .int .u64 v, .int .i64 0, .int .i64 0, .int .i64 0, .slice none 0 0, .slice none 0 0, .slice none 0 0, .int .i64 0, .string ⟨#[]⟩, .string ⟨#[]⟩, .int .i64 0, .int .i64 0, .int .i64 0, .int .i64 0, .slice none 0 0, .slice none 0 0, .slice none 0 0, .int .i64 0, .string ⟨#[]⟩, .int .i64 0, .int .i64 0, .slice none 0 0, .slice none 0 0, .int .i64 0, .bool false, .int .i64 0, .int .i64 0, .int .i64 0, .int .i64 0, .int .i64 0, .slice none 0 0, .slice none 0 0, .int .i64 0, .string ⟨#[]⟩, .int .i64 0, .int .i64 0, .slice none 0 0, .int .i64 0, .int .i64 0, .int .i64 0, .slice none 0 0, .int .i64 0, .int .i64 0, .slice none 0 0, .slice none 0 0]
theorem zh_is (k : Nat) (n : ByteArray) (v : Nat) : Is47 (ZH k n v) := ⟨rfl, rfl⟩
theorem zh_set (k : Nat) (n : ByteArray) (v : Nat) : ((ZH k ⟨#[]⟩ 0).setIfInBounds 1 (.string n)).setIfInBounds 2 (.int .u64 v) = ZH k n v := rfl
theorem one_of47 {L : Array Value} (h : Is47 L) : One L := fun v hv => List.all_eq_true.1 h.2 v hv
theorem of_one47 {L : Array Value} (h : One L) (hs : L.size = 47) : Is47 L := ⟨hs, List.all_eq_true.2 fun v hv => h v hv⟩
theorem heap_setCells_far {g h : Nat} (hgh : g ≠ h) : ∀ (vs : List Value) (o : Nat) (w : World), (w.setCells h o vs).heap[g]? = w.heap[g]?
  | [], _, _ => rfl
  | v :: vs, o, w => (heap_setCells_far hgh vs (o + 1) _).trans (Below.heap_setCell w ⟨h, o, none⟩ v g hgh)
theorem RS.sets {w : World} {p : Nat} {r : Option Nat} {st : Option (List UInt8)} (h : RS w p r st) {t : Nat} (tp : t ≠ p) (tr : r ≠ some t) (vs : List Value) (o : Nat) : RS (w.setCells t o vs) p r st :=
  h.keep (Nat.le_of_eq (size_setCells vs o w).symm) (heap_setCells_far (Ne.symm tp) _ _ _) fun k e => heap_setCells_far (fun e2 => tr (by rw [e, e2])) _ _ _
theorem touch_sets {p t : Nat} {r : Option Nat} {w w' : World} (h : PTouch p r w w') (ht : w.heap.size ≤ t) (vs : List Value) (o : Nat) : PTouch p r w (w'.setCells t o vs) := by
  refine ⟨by rw [size_setCells]; exact h.size, fun g hg h1 h2 => ?_, fun B W hB h1 h2 h3 => below_setCells vs o (h.below B W hB h1 h2 h3) (Nat.le_trans h3 ht)⟩
  rw [heap_setCells_far (by omega), h.heap g hg h1 h2]
/-- The reader turns bad. -/
theorem RS.bad {w : World} {p : Nat} {r : Option Nat} {st : Option (List UInt8)} (h : RS w p r st) : RS (w.setCell ⟨p, 1, none⟩ (.bool true)) p r none := by
  have key : ∀ bs bad, RdO w p r bs bad → RdO (w.setCell ⟨p, 1, none⟩ (.bool true)) p r bs true := by
    rintro bs bad ⟨A, c, hk, hS, hAr, hrp, hrl⟩
    have hT := (PTouch.refl p none w).setCell (a := ⟨p, 1, none⟩) rfl (.bool true)
    have hAne : ∀ ad, A = some ad → ad.block ≠ p := fun ad e => by
      subst e
      intro e2
      rw [← hAr] at hrp
      exact hrp (by simp [e2])
    exact ⟨A, c, by simpa using hk.set 1 (.bool true), hS.far hT.size fun ad e => Below.heap_setCell w ⟨p, 1, none⟩ _ ad.block (hAne ad e), hAr, hrp, fun k e => Nat.lt_of_lt_of_le (hrl k e) hT.size⟩
  cases st with
  | none => obtain ⟨bs, h1, h2⟩ := h; exact ⟨bs, key _ _ h1, h2⟩
  | some bs => exact ⟨bs, key _ _ h.1, h.2⟩
theorem RS.cell {w : World} {p : Nat} {r : Option Nat} {st : Option (List UInt8)} (h : RS w p r st) : w.cell? ⟨p, 1, none⟩ = some (.bool st.isNone) ∧ w.frozen? ⟨p, 1, none⟩ = false := by
  cases st with
  | none => obtain ⟨bs, ⟨A, c, hk, _⟩, h2⟩ := h; exact ⟨hk.cell 1, hk.frozen 1⟩
  | some bs => obtain ⟨⟨A, c, hk, _⟩, h2⟩ := h; exact ⟨hk.cell 1, hk.frozen 1⟩
theorem get_stb {w : World} {p : Nat} {r : Option Nat} {st : Option (List UInt8)} (n : Nat) (hn : wholeP n) (h : RS w p r st) : Calls Try.prog 11 #[.pointer (some ⟨p, 0, none⟩), .int .i64 n] w fun e w' => ∃ x st', x < 256 ^ n ∧ e = .returned (.int .u64 (x : Nat)) ∧ RS w' p r st' ∧ PTouch p none w w' ∧ Stp (dNum n) st st' (fun y => y = x) := by
  have h0 : 0 < 256 ^ n := Nat.pow_pos (by omega)
  cases st with
  | none =>
    obtain ⟨bs, h1, h2⟩ := h
    refine (get_bad n w h1 h2 (.inr (.inl rfl))).mono ?_
    rintro e w' ⟨rfl, hR⟩
    exact ⟨0, none, h0, rfl, ⟨bs, hR.1, h2⟩, hR.2, stp_bad⟩
  | some bs =>
    obtain ⟨h1, h2⟩ := h
    by_cases hl : n ≤ bs.length
    · refine (get_ok n hn w h1 h2 hl).mono ?_
      rintro e w' ⟨rfl, hR⟩
      have hlt := leV_lt (bs.take n)
      rw [show (bs.take n).length = n by rw [List.length_take]; omega] at hlt
      exact ⟨_, some (bs.drop n), hlt, rfl, ⟨hR.1, by rw [List.length_drop]; omega⟩, hR.2, stp_ok (by unfold dNum; rw [if_pos hl]) rfl⟩
    · refine (get_bad n w h1 h2 (.inr (.inr (by omega)))).mono ?_
      rintro e w' ⟨rfl, hR⟩
      exact ⟨0, none, h0, rfl, ⟨bs, hR.1, h2⟩, hR.2, stp_fail (by unfold dNum; rw [if_neg hl])⟩
/-- The object's cells hold what was read. -/
def AtOb (B : Nat) (w : World) (L : Array Value) (k : Nat) (n : ByteArray) (v : Nat) : Shp → Prop
  | .wl x => k = 0 ∧ AtWl B w L 3 x ∧ Fr (ZH k n v) L 3 7
  | .pd x => k = 1 ∧ AtPd B w L 10 x ∧ Fr (ZH k n v) L 10 10
  | .nd x => k = 2 ∧ AtNd B w L 20 x ∧ Fr (ZH k n v) L 20 7
  | .gr x => k = 3 ∧ AtGr B w L 27 x ∧ Fr (ZH k n v) L 27 8
  | .hp x => k = 4 ∧ AtHp B w L 35 x ∧ Fr (ZH k n v) L 35 12
theorem touch_setsT {p t : Nat} (w : World) (vs : List Value) (o : Nat) : PTouch p (some t) w (w.setCells t o vs) := by
  refine ⟨by rw [size_setCells]; omega, fun g hg h1 h2 => heap_setCells_far (fun e => h2 (by rw [e])) _ _ _, fun B W hB h1 h2 h3 => below_setCells vs o hB (h2 t rfl)⟩
theorem Stp.weak {α : Type} {d : Dec α} {st st1 : Option (List UInt8)} {X Y : α → Prop} (h : Stp d st st1 X) (e : st1 = none) : Stp d st st1 Y := ⟨fun rest e2 => (by rw [e] at e2; cases e2), h.2⟩
theorem RowAt.moveB {B B1 : Nat} {e : TypeId} {s : Nat} {α : Type} {f : α → List Value} {w w2 : World} {cs : Array Value} {o : Nat} {l : List α} {p t : Nat} (T : PTouch p (some t) w w2) (hp : p < B1) (ht : t < B1) (hb : B ≤ B1) (h : RowAt B1 e s f w cs o l) : RowAt B e s f w2 cs o l := by
  obtain ⟨v, h1, h2⟩ := h
  exact ⟨v, h1, own_mono (own_touch h2 T hp ht) hb⟩
section
variable {B B1 : Nat} {w w2 : World} {cs : Array Value}
theorem AtWl.move {o : Nat} {x : TWl} (m : ∀ {α : Type} {e : TypeId} {s : Nat} {f : α → List Value} {o : Nat} {l : List α}, RowAt B1 e s f w cs o l → RowAt B e s f w2 cs o l) (h : AtWl B1 w cs o x) : AtWl B w2 cs o x := by
  obtain ⟨a0, a1, a2, a3, a4, a5, a6⟩ := h
  exact ⟨a0, a1, a2, (m a3), (m a4), (m a5), a6⟩
theorem AtPd.move {o : Nat} {x : TPd} (m : ∀ {α : Type} {e : TypeId} {s : Nat} {f : α → List Value} {o : Nat} {l : List α}, RowAt B1 e s f w cs o l → RowAt B e s f w2 cs o l) (h : AtPd B1 w cs o x) : AtPd B w2 cs o x := by
  obtain ⟨a0, a1, a2, a3, a4, a5, a6, a7, a8, a9⟩ := h
  exact ⟨a0, a1, a2, a3, a4, a5, (m a6), (m a7), (m a8), a9⟩
theorem AtNd.move {o : Nat} {x : TNd} (m : ∀ {α : Type} {e : TypeId} {s : Nat} {f : α → List Value} {o : Nat} {l : List α}, RowAt B1 e s f w cs o l → RowAt B e s f w2 cs o l) (h : AtNd B1 w cs o x) : AtNd B w2 cs o x := by
  obtain ⟨a0, a1, a2, a3, a4, a5, a6⟩ := h
  exact ⟨a0, a1, a2, (m a3), (m a4), a5, a6⟩
theorem AtGr.move {o : Nat} {x : TGr} (m : ∀ {α : Type} {e : TypeId} {s : Nat} {f : α → List Value} {o : Nat} {l : List α}, RowAt B1 e s f w cs o l → RowAt B e s f w2 cs o l) (h : AtGr B1 w cs o x) : AtGr B w2 cs o x := by
  obtain ⟨a0, a1, a2, a3, a4, a5, a6, a7⟩ := h
  exact ⟨a0, a1, a2, a3, a4, (m a5), (m a6), a7⟩
theorem AtHp.move {o : Nat} {x : THp} (m : ∀ {α : Type} {e : TypeId} {s : Nat} {f : α → List Value} {o : Nat} {l : List α}, RowAt B1 e s f w cs o l → RowAt B e s f w2 cs o l) (h : AtHp B1 w cs o x) : AtHp B w2 cs o x := by
  obtain ⟨a0, a1, a2, a3, a4, ⟨a5_0, a5_1, a5_2⟩, ⟨a6_0, a6_1, a6_2⟩, a7⟩ := h
  exact ⟨a0, a1, a2, (m a3), a4, ⟨a5_0, a5_1, (m a5_2)⟩, ⟨a6_0, a6_1, (m a6_2)⟩, (m a7)⟩
theorem AtOb.move {k : Nat} {n : ByteArray} {v : Nat} {q : Shp} (m : ∀ {α : Type} {e : TypeId} {s : Nat} {f : α → List Value} {o : Nat} {l : List α}, RowAt B1 e s f w cs o l → RowAt B e s f w2 cs o l) (h : AtOb B1 w cs k n v q) : AtOb B w2 cs k n v q := by
  cases q with
  | wl x => exact ⟨h.1, h.2.1.move m, h.2.2⟩
  | pd x => exact ⟨h.1, h.2.1.move m, h.2.2⟩
  | nd x => exact ⟨h.1, h.2.1.move m, h.2.2⟩
  | gr x => exact ⟨h.1, h.2.1.move m, h.2.2⟩
  | hp x => exact ⟨h.1, h.2.1.move m, h.2.2⟩
end
theorem shape_rd {w : World} {p : Nat} {r : Option Nat} {fb t : Nat} {st : Option (List UInt8)} {k : Nat} {n : ByteArray} {v : Nat} (h : RPre w p r fb t 48 (ZH k n v) st) :
    Calls Try.prog 22 #[.pointer (some ⟨fb, 0, none⟩), .pointer (some ⟨t, 0, none⟩)] w fun e w' => ∃ st' cs', e = .returned (.bool (decide (k < 5))) ∧ RS w' p r st' ∧ Bk w' t 48 cs' ∧ Is47 cs' ∧ PTouch p (some t) w w' ∧ (k < 5 → Stp (dShp k) st st' (AtOb w.heap.size w' cs' k n v)) := by
  rcases Nat.lt_or_ge k 5 with h5 | h5
  · rcases (by omega : k = 0 ∨ k = 1 ∨ k = 2 ∨ k = 3 ∨ k = 4) with rfl | rfl | rfl | rfl | rfl
    · refine (shape_wl h rfl rfl rfl rfl rfl).mono ?_
      rintro e w' ⟨rfl, _, st', cs', a1, a2, a3, a4, a5, a6⟩
      exact ⟨st', cs', rfl, a1, a2, of_one47 a4 a3.size, a5, fun _ => by rw [dshp_0]; exact a6.dmap _ fun x hx => ⟨rfl, hx, a3⟩⟩
    · refine (shape_pd h rfl rfl rfl rfl rfl).mono ?_
      rintro e w' ⟨rfl, _, st', cs', a1, a2, a3, a4, a5, a6⟩
      exact ⟨st', cs', rfl, a1, a2, of_one47 a4 a3.size, a5, fun _ => by rw [dshp_1]; exact a6.dmap _ fun x hx => ⟨rfl, hx, a3⟩⟩
    · refine (shape_nd h rfl rfl rfl rfl).mono ?_
      rintro e w' ⟨rfl, _, st', cs', a1, a2, a3, a4, a5, a6⟩
      exact ⟨st', cs', rfl, a1, a2, of_one47 a4 a3.size, a5, fun _ => by rw [dshp_2]; exact a6.dmap _ fun x hx => ⟨rfl, hx, a3⟩⟩
    · refine (shape_gr h rfl rfl rfl rfl).mono ?_
      rintro e w' ⟨rfl, _, st', cs', a1, a2, a3, a4, a5, a6⟩
      exact ⟨st', cs', rfl, a1, a2, of_one47 a4 a3.size, a5, fun _ => by rw [dshp_3]; exact a6.dmap _ fun x hx => ⟨rfl, hx, a3⟩⟩
    · refine (shape_hp h rfl rfl rfl rfl rfl rfl).mono ?_
      rintro e w' ⟨rfl, _, st', cs', a1, a2, a3, a4, a5, a6⟩
      exact ⟨st', cs', rfl, a1, a2, of_one47 a4 a3.size, a5, fun _ => by rw [dshp_4]; exact a6.dmap _ fun x hx => ⟨rfl, hx, a3⟩⟩
  · refine (shape_no h.tk (k := k) rfl (by omega)).mono ?_
    rintro e w' ⟨rfl, rfl⟩
    exact ⟨st, _, by rw [decide_eq_false (by omega)], h.rs, h.tk, zh_is k n v, PTouch.refl _ _ _, fun h => by omega⟩
/-- What reading an object leaves. -/
def ROut (p : Nat) (r : Option Nat) (st : Option (List UInt8)) (w : World) (e : Ending) (w' : World) : Prop :=
  ∃ st' L, e = .returned (.agg L) ∧ RS w' p r st' ∧ PTouch p none w w' ∧ Is47 L ∧ (st' = none → L = Z47) ∧ Stp dOb st st' (fun q => AtOb w.heap.size w' L q.1 q.2.1 q.2.2.1 q.2.2.2)
set_option maxHeartbeats 2000000 in
set_option maxRecDepth 100000 in
theorem robj_rd {w : World} {p : Nat} {r : Option Nat} {st : Option (List UInt8)} (h : RS w p r st) :
    Calls Try.prog 7 #[.pointer (some ⟨p, 0, none⟩)] w (ROut p r st w) := by
  have h1L : Z47.toList.all (·.oneCell') = true := z47_is.2
  have HI : Hid ((Try.prog.info? 48).map (·.size) = some Z47.size) := Lib.hid (by kernel_rfl)
  have hk0 := Bk.new w 48 Z47
  have hb0 := below_al w (.cells Z47 48)
  have CG := Lib.hid (get_stb 1 (.inl rfl) (h.below hb0))
  have hp := h.lt
  have hr := h.rlt
  clear h
  go_enter Try.func7, Try.ntmps7
  go_upto_region 1 with (refine wpl_allocg rfl (run_alloc47 rfl _) ?_)
  generalize w.alloc (.cells Z47 48) = Wa at hk0 hb0 CG ⊢
  go_wp2_with fail
  refine CG.out.mono ?_
  rintro e w1 ⟨k, st1, hk256, rfl, hR1, hT1, S1⟩
  have wk : wrap64 (k : Int) = (k : Int) := by unfold wrap64; omega
  have hT01 : PTouch p none w w1 := (PTouch.of_below hb0).trans hT1 (.inl rfl)
  have hk1 := hT1.bk hk0 (by omega) (by simp)
  have hkn := Bk.new w1 48 Z47
  have hne : w1.heap.size ≠ w.heap.size := Nat.ne_of_gt hk1.lt
  have hle : w.heap.size ≤ w1.heap.size := hT01.size
  obtain ⟨Wb, hWb⟩ : ∃ Wb, Wb = (w1.alloc (.cells Z47 48)).setCells w1.heap.size 0 (ZH k ⟨#[]⟩ 0).toList := ⟨_, rfl⟩
  have hTb : PTouch p none w Wb := by rw [hWb]; exact touch_sets (hT01.trans (PTouch.of_below (below_al w1 _)) (.inl rfl)) hle _ _
  have hRb : RS Wb p r st1 := by rw [hWb]; exact (hR1.below (below_al w1 _)).sets (by omega) (fun e => by have := hr _ e; omega) _ _
  have hkb : Bk Wb w1.heap.size 48 (ZH k ⟨#[]⟩ 0) := by rw [hWb]; exact setCells_whole hkn rfl
  have hkb0 : Bk Wb w.heap.size 48 Z47 := by rw [hWb]; exact setCells_far (Ne.symm hne) _ _ (hk1.alloc _)
  have HW := Lib.hid hWb
  have HS1 := Lib.hid S1
  have h1K : (ZH k ⟨#[]⟩ 0).toList.all (·.oneCell') = true := (zh_is k ⟨#[]⟩ 0).2
  clear hWb hb0 hk0 hR1 hT1 S1 hT01 CG
  go_upto_region 2 with (first | (refine wpl_allocg rfl (run_alloc47 rfl _) ?_) | (refine wpl_storeg (cs := ZH k ⟨#[]⟩ 0) hkn rfl rfl rfl 48 (.tmp 3) (.tmp 8) rfl rfl (by rfl) HI.out h1K ?_))
  rw [← HW.out]
  clear hkn hk1 HW h1K
  generalize w1.heap.size = g at hkb hne hle ⊢
  have CT := Lib.hid (rtext_st hRb)
  go_wp2_with fail
  refine CT.out.mono ?_
  rintro e w2 ⟨n, st2, rfl, hR2, hT2, S2⟩
  have hk2 := hT2.bk hkb (by omega) (by simp)
  have hz2 := hT2.bk hkb0 (by omega) (by simp)
  have hTT2 := hTb.trans hT2 (.inl rfl)
  have HS2 := Lib.hid S2
  have C8 := Lib.hid (get_st 8 (.inr (.inr (.inr rfl))) hR2)
  clear hkb hkb0 hTb hT2 S2 hRb CT hR2
  go_wp2_with fail
  refine C8.out.mono ?_
  rintro e w3 ⟨v, st3, rfl, hR3, hT3, S3⟩
  have hk3 := hT3.bk hk2 (by omega) (by simp)
  have hz3 := hT3.bk hz2 (by omega) (by simp)
  have hTT3 := hTT2.trans hT3 (.inl rfl)
  have HS3 := Lib.hid S3
  have c1 : w3.cell? ⟨g, 1, none⟩ = some (.string ⟨#[]⟩) := hk3.cell 1
  have c2 : w3.cell? ⟨g, 2, none⟩ = some (.int .u64 0) := hk3.cell 2
  have f1 := hk3.frozen 1
  have f2 := hk3.frozen 2
  obtain ⟨W4, hW4⟩ : ∃ W4, W4 = (w3.setCell ⟨g, 1, none⟩ (.string n)).setCell ⟨g, 2, none⟩ (.int .u64 v) := ⟨_, rfl⟩
  have hk4 : Bk W4 g 48 (ZH k n v) := by rw [hW4]; exact (hk3.set 1 (.string n)).set 2 (.int .u64 v)
  have hz4 : Bk W4 w.heap.size 48 Z47 := by rw [hW4]; exact (hz3.far (p := ⟨g, 1, none⟩) (fun e => hne e.symm) (.string n)).far (p := ⟨g, 2, none⟩) (fun e => hne e.symm) (.int .u64 v)
  have hR4 : RS W4 p r st3 := by rw [hW4]; exact rs_set (rs_set hR3 (by omega) (fun e => by have := hr _ e; omega) 1 _) (by omega) (fun e => by have := hr _ e; omega) 2 _
  have hT4 : PTouch p none w W4 := by
    rw [hW4]
    exact touch_sets (t := g) (touch_sets (t := g) hTT3 hle [.string n] 1) hle [.int .u64 v] 2
  have CB := Lib.hid (bad_st hR4)
  have HW4 := Lib.hid hW4
  clear hk2 hz2 hTT2 hT3 S3 hk3 hz3 hTT3 hR3 C8 hW4
  go_upto_region 3 with fail
  rw [← HW4.out]
  clear c1 c2 f1 f2 HW4
  go_wp2_with fail
  refine CB.out.mono ?_
  rintro e wz ⟨rfl, rfl⟩
  have HSH := Lib.hid (fun (st4 : Option (List UInt8)) (X : Shp → Prop) (h4 : Stp (dShp k) st3 st4 X) => show Stp dOb st st4 (fun q => q.1 = k ∧ q.2.1 = n ∧ q.2.2.1 = v ∧ X q.2.2.2) from Stp.dep (f := fun k => dPair dStr (dPair (dNum 8) (dShp k))) HS1.out (HS2.out.pair (HS3.out.pair h4)))
  cases st3 with
  | none =>
    have HF : ROut p r st w (.returned (.agg Z47)) (W4.setCells w.heap.size 0 Z47.toList) := ⟨none, Z47, rfl, hR4.sets (by omega) (fun e => by have := hr _ e; omega) _ _, touch_sets hT4 (Nat.le_refl _) _ _, z47_is, fun _ => rfl, (HSH.out none (fun _ => False) stp_bad).mono fun q hq => hq.2.2.2.elim⟩
    have hkf : Bk (W4.setCells w.heap.size 0 Z47.toList) w.heap.size 48 Z47 := setCells_whole hz4 rfl
    have HF := Lib.hid (And.intro HF hkf)
    clear hkf hR4 hT4 hk4
    go_wp2_with (refine wpl_storeg (cs := Z47) hz4 rfl rfl rfl 48 (.tmp 2) (.tmp 17) rfl rfl (by rfl) HI.out h1L ?_)
    obtain ⟨HF1, hkf⟩ := HF.out
    generalize W4.setCells w.heap.size 0 Z47.toList = W5 at HF1 hkf ⊢
    exact bodyPost_ret (results_obj hkf z47_is rfl (by rfl)) rfl HF1
  | some b3 =>
    have hal := below_al W4 (.cells #[.pointer none, .pointer (some ⟨p, 0, none⟩), .bool false] 69)
    have hgl := hk4.lt
    have HP := Lib.hid (show RPre (W4.alloc (.cells #[.pointer none, .pointer (some ⟨p, 0, none⟩), .bool false] 69)) p r W4.heap.size g 48 (ZH k n v) (some b3) from ⟨hR4.below hal, ⟨false, Bk.new _ _ _⟩, hk4.alloc _, one_of47 (zh_is k n v), by omega, fun e => by have := hr _ e; omega, by omega, by omega⟩)
    have hz5 := hz4.alloc (.cells #[.pointer none, .pointer (some ⟨p, 0, none⟩), .bool false] 69)
    have hT5 : PTouch p none w (W4.alloc (.cells #[.pointer none, .pointer (some ⟨p, 0, none⟩), .bool false] 69)) := hT4.trans (PTouch.of_below hal) (.inl rfl)
    clear hk4 hz4 hR4 hT4 hal CB
    go_wp2_with fail
    generalize W4.alloc (.cells #[.pointer none, .pointer (some ⟨p, 0, none⟩), .bool false] 69) = W5 at HP hz5 hT5 ⊢
    refine (shape_rd HP.out).mono ?_
    rintro e w6 ⟨st4, cs4, rfl, hR6, hk6, h47, hT6, hS6⟩
    have hgw : g < W5.heap.size := HP.out.tk.lt
    have hpw : p < W5.heap.size := HP.out.rs.lt
    have hz6 := hT6.bk hz5 (by omega) (by simp; omega)
    have hTT6 : PTouch p none w w6 := hT5.trans hT6 (.inr ⟨g, rfl, hle⟩)
    have hle5 := hT5.size
    have c6 := hR6.cell.1
    have f6 := hR6.cell.2
    rcases Nat.lt_or_ge k 5 with h5 | h5
    · rw [show decide (k < 5) = true from decide_eq_true h5]
      cases st4 with
      | none =>
        have HF : ROut p r st w (.returned (.agg Z47)) (w6.setCells w.heap.size 0 Z47.toList) := ⟨none, Z47, rfl, hR6.sets (by omega) (fun e => by have := hr _ e; omega) _ _, touch_sets hTT6 (Nat.le_refl _) _ _, z47_is, fun _ => rfl, (HSH.out none (fun _ => False) ((hS6 h5).weak rfl)).mono fun q hq => hq.2.2.2.elim⟩
        have hkf : Bk (w6.setCells w.heap.size 0 Z47.toList) w.heap.size 48 Z47 := setCells_whole hz6 rfl
        have HF := Lib.hid (And.intro HF hkf)
        clear hkf hR6 hT6 hk6 hTT6 hS6
        go_wp2_with (refine wpl_storeg (cs := Z47) hz6 rfl rfl rfl 48 (.tmp 2) (.tmp 31) rfl rfl (by rfl) HI.out h1L ?_)
        obtain ⟨HF1, hkf⟩ := HF.out
        generalize w6.setCells w.heap.size 0 Z47.toList = W7 at HF1 hkf ⊢
        exact bodyPost_ret (results_obj hkf z47_is rfl (by rfl)) rfl HF1
      | some b4 =>
        have HI4 : Hid ((Try.prog.info? 48).map (·.size) = some cs4.size) := Lib.hid (info47 h47)
        have HF : ROut p r st w (.returned (.agg cs4)) (w6.setCells w.heap.size 0 cs4.toList) := ⟨some b4, cs4, rfl, hR6.sets (by omega) (fun e => by have := hr _ e; omega) _ _, touch_sets hTT6 (Nat.le_refl _) _ _, h47, fun e => (by cases e), (HSH.out (some b4) _ (hS6 h5)).mono fun q hq => by
          rw [hq.1, hq.2.1, hq.2.2.1]
          exact hq.2.2.2.move (RowAt.moveB (p := p) (touch_setsT w6 _ _) hpw (by omega) hle5)⟩
        have hkf : Bk (w6.setCells w.heap.size 0 cs4.toList) w.heap.size 48 cs4 := setCells_whole hz6 h47.1.symm
        have HF := Lib.hid (And.intro HF (And.intro hkf h47))
        have h14 : cs4.toList.all (·.oneCell') = true := h47.2
        have hl4 : Z47.size = cs4.size := h47.1.symm
        clear hkf hR6 hT6 hTT6 hS6
        go_wp2_with (first | (refine wpl_loadg hk6 rfl 48 (.tmp 3) rfl rfl _ Try.underlying48 rfl HI4.out ?_) | (refine wpl_storeg (cs := cs4) hz6 hl4 rfl rfl 48 (.tmp 2) (.tmp 32) rfl rfl (by rfl) HI4.out h14 ?_))
        obtain ⟨HF1, hkf, h47⟩ := HF.out
        generalize w6.setCells w.heap.size 0 cs4.toList = W7 at HF1 hkf ⊢
        exact bodyPost_ret (results_obj hkf h47 rfl (by rfl)) rfl HF1
    · rw [show decide (k < 5) = false from decide_eq_false (by omega)]
      have hRb := hR6.bad
      have cb := hRb.cell.1
      have hzb := hz6.far (p := ⟨p, 1, none⟩) (by simp; omega) (.bool true)
      have hTb : PTouch p none w (w6.setCell ⟨p, 1, none⟩ (.bool true)) := hTT6.setCell (a := ⟨p, 1, none⟩) rfl _
      have HF : ROut p r st w (.returned (.agg Z47)) ((w6.setCell ⟨p, 1, none⟩ (.bool true)).setCells w.heap.size 0 Z47.toList) := ⟨none, Z47, rfl, hRb.sets (by omega) (fun e => by have := hr _ e; omega) _ _, touch_sets hTb (Nat.le_refl _) _ _, z47_is, fun _ => rfl, (HSH.out none (fun _ => False) (stp_never _ (dshp_no h5))).mono fun q hq => hq.2.2.2.elim⟩
      have hkf : Bk ((w6.setCell ⟨p, 1, none⟩ (.bool true)).setCells w.heap.size 0 Z47.toList) w.heap.size 48 Z47 := setCells_whole hzb rfl
      have HF := Lib.hid (And.intro HF hkf)
      clear hkf hR6 hT6 hk6 hTT6 hS6 hRb hTb hz6
      go_wp2_with (refine wpl_storeg (cs := Z47) hzb rfl rfl rfl 48 (.tmp 2) (.tmp 31) rfl rfl (by rfl) HI.out h1L ?_)
      obtain ⟨HF1, hkf⟩ := HF.out
      generalize (w6.setCell ⟨p, 1, none⟩ (.bool true)).setCells w.heap.size 0 Z47.toList = W7 at HF1 hkf ⊢
      exact bodyPost_ret (results_obj hkf z47_is rfl (by rfl)) rfl HF1
end Go.Proofs.Ythdjfcfbmmmmcaa
