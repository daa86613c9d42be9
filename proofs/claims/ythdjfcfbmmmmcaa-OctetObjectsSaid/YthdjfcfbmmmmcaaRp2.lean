/-
  Reading one field into a cell: the walks of number, text and truth of package octet, with a reader.
-/
import Derived.Test.YthdjfcfbmmmmcaaRp1
namespace Go.Proofs.Ythdjfcfbmmmmcaa
open Go.RowKit Go.Proofs.Mem
set_option linter.unusedVariables false
set_option linter.unusedSimpArgs false
section
variable {w : World} {p : Nat} {r : Option Nat} {st : Option (List UInt8)}
theorem rint_st (h : RS w p r st) : Calls Try.prog 57 #[.pointer (some ⟨p, 0, none⟩)] w (RStep p r st w dInt (fun x => .int .i64 x)) := by
  cases st with
  | none =>
    obtain ⟨bs, h1, h2⟩ := h
    refine (rint_bad w h1 h2 (.inl rfl)).mono ?_
    rintro e w' ⟨rfl, hR⟩
    exact ⟨0, none, rfl, ⟨bs, hR.1, h2⟩, hR.2, stp_bad⟩
  | some bs =>
    obtain ⟨h1, h2⟩ := h
    by_cases hl : 8 ≤ bs.length
    · refine (rint_ok w h1 h2 hl).mono ?_
      rintro e w' ⟨rfl, hR⟩
      refine ⟨_, some (bs.drop 8), rfl, ⟨hR.1, by rw [List.length_drop]; omega⟩, hR.2, stp_ok (by unfold dInt dNum; rw [if_pos hl]; rfl) ?_⟩
      have hlt := leV_lt (bs.take 8)
      rw [show (bs.take 8).length = 8 by rw [List.length_take]; omega] at hlt
      dsimp only
      have hlt2 : leV (bs.take 8) < 18446744073709551616 := hlt
      generalize leV (bs.take 8) = x at hlt2
      unfold wrap64
      split <;> omega
    · refine (rint_bad w h1 h2 (.inr (by omega))).mono ?_
      rintro e w' ⟨rfl, hR⟩
      exact ⟨0, none, rfl, ⟨bs, hR.1, h2⟩, hR.2, stp_fail (by unfold dInt dNum; rw [if_neg hl]; rfl)⟩
theorem rtext_st (h : RS w p r st) : Calls Try.prog 21 #[.pointer (some ⟨p, 0, none⟩)] w (RStep p r st w dStr (fun x => .string x)) := by
  cases st with
  | none =>
    obtain ⟨bs, h1, h2⟩ := h
    refine (rtext_bad w h1 h2 (.inl rfl)).mono ?_
    rintro e w' ⟨rfl, hR⟩
    exact ⟨⟨#[]⟩, none, rfl, ⟨bs, hR.1, h2⟩, hR.2, stp_bad⟩
  | some bs =>
    obtain ⟨h1, h2⟩ := h
    cases bs with
    | nil =>
      refine (rtext_bad w h1 h2 (.inr rfl)).mono ?_
      rintro e w' ⟨rfl, hR⟩
      exact ⟨⟨#[]⟩, none, rfl, ⟨[], hR.1, h2⟩, hR.2, stp_fail rfl⟩
    | cons b bs =>
      have hd : dNum 1 (b :: bs) = some (b.toNat, bs) := by
        unfold dNum
        rw [if_pos (by simp)]
        simp [leV]
      by_cases hl : b.toNat ≤ bs.length
      · refine (rtext_ok w h1 h2 hl).mono ?_
        rintro e w' ⟨rfl, hR⟩
        refine ⟨_, some (bs.drop b.toNat), rfl, ⟨hR.1, by rw [List.length_drop]; simp at h2; omega⟩, hR.2, stp_ok ?_ rfl⟩
        unfold dStr dText
        simp only [Dec.then, hd, dTake, if_pos hl]
        rfl
      · refine (rtext_short w h1 h2 (by omega)).mono ?_
        rintro e w' ⟨rfl, hR⟩
        refine ⟨⟨#[]⟩, none, rfl, ⟨bs, hR.1, by simp at h2; omega⟩, hR.2, stp_fail ?_⟩
        unfold dStr dText
        simp only [Dec.then, hd, dTake, if_neg hl]
        rfl
end
/-- What a field is read with. -/
structure RPre (w : World) (p : Nat) (r : Option Nat) (fb t : Nat) (ty : TypeId) (cs : Array Value) (st : Option (List UInt8)) : Prop where
  rs : RS w p r st
  fld : ∃ lg, Bk w fb 69 #[.pointer none, .pointer (some ⟨p, 0, none⟩), .bool lg]
  tk : Bk w t ty cs
  one : One cs
  tp : t ≠ p
  tr : r ≠ some t
  ft : fb ≠ t
  fp : fb ≠ p
/-- What reading leaves. -/
def RPost {α : Type} (p : Nat) (r : Option Nat) (t : Nat) (ty : TypeId) (o k : Nat) (st : Option (List UInt8)) (cs : Array Value) (w : World) (d : Dec α) (X : World → Array Value → α → Prop) (e : Ending) (w' : World) : Prop :=
  e = .returned (.tuple #[]) ∧ ∃ st' cs', RS w' p r st' ∧ Bk w' t ty cs' ∧ Fr cs cs' o k ∧ One cs' ∧ PTouch p (some t) w w' ∧ Stp d st st' (X w' cs')
theorem RPre.next {w w' : World} {p : Nat} {r : Option Nat} {fb t : Nat} {ty : TypeId} {cs cs' : Array Value} {st st' : Option (List UInt8)} (h : RPre w p r fb t ty cs st) (h1 : RS w' p r st') (h2 : Bk w' t ty cs') (h3 : One cs') (h4 : PTouch p (some t) w w') : RPre w' p r fb t ty cs' st' :=
  ⟨h1, h.fld.imp fun _ hk => h4.bk hk h.fp (by simpa using h.ft), h2, h3, h.tp, h.tr, h.ft, h.fp⟩
theorem rs_set {w : World} {p : Nat} {r : Option Nat} {st : Option (List UInt8)} (h : RS w p r st) {t : Nat} (tp : t ≠ p) (tr : r ≠ some t) (o : Nat) (v : Value) : RS (w.setCell ⟨t, o, none⟩ v) p r st :=
  h.keep (by simp [World.setCell]) (Below.heap_setCell _ _ _ _ (Ne.symm tp)) fun k e => Below.heap_setCell _ _ _ _ (fun e2 => tr (by rw [e, e2]))
theorem rpost_set {α : Type} {w w1 : World} {p : Nat} {r : Option Nat} {fb t : Nat} {ty : TypeId} {cs : Array Value} {st st' : Option (List UInt8)} {d : Dec α} {x : α} {mk : α → Value} (h : RPre w p r fb t ty cs st) (o : Nat) (ho : o < cs.size) (hm : (mk x).oneCell' = true)
    (hR : RS w1 p r st') (hT : PTouch p none w w1) (hS : Stp d st st' (fun y => y = x)) :
    RPost p r t ty o 1 st cs w d (fun w' cs' y => cs'[o]? = some (mk y)) (.returned (.tuple #[])) (w1.setCell ⟨t, o, none⟩ (mk x)) := by
  refine ⟨rfl, st', cs.setIfInBounds o (mk x), rs_set hR h.tp h.tr _ _, (hT.bk h.tk h.tp (by simp)).set o _, Fr.set _ _ _, h.one.set o hm, (hT.weak).setT (a := ⟨t, o, none⟩) rfl _, hS.mono fun y hy => ?_⟩
  rw [hy]
  show (cs.setIfInBounds o (mk x))[o]? = _
  rw [Array.getElem?_setIfInBounds_self_of_lt ho]
set_option maxRecDepth 100000 in
theorem numI_rd {w : World} {p : Nat} {r : Option Nat} {fb t : Nat} {ty : TypeId} {cs : Array Value} {st : Option (List UInt8)} (h : RPre w p r fb t ty cs st) (o : Nat) (ho : o < cs.size) :
    Calls Try.prog 44 #[.pointer (some ⟨fb, 0, none⟩), .pointer (some ⟨t, o, none⟩)] w (RPost p r t ty o 1 st cs w dInt (fun w' cs' x => cs'[o]? = some (Value.int .i64 x))) := by
  obtain ⟨lg, hf⟩ := h.fld
  have c1 := hf.cell 1
  have C := Lib.hid (rint_st h.rs)
  have HP := Lib.hid h
  clear hf h
  go_enter Try.func44, Try.ntmps44
  go_wp2_with fail
  refine C.out.mono ?_
  rintro e w1 ⟨x, st', rfl, hR, hT, hS⟩
  have tk1 := hT.bk HP.out.tk HP.out.tp (by simp)
  have f1 := tk1.frozen o
  have e1 := tk1.cell o
  rw [Array.getElem?_eq_getElem ho] at e1
  have HF := Lib.hid (rpost_set (mk := Value.int .i64) HP.out o ho rfl hR hT hS)
  clear hR hT hS tk1 c1
  go_wp2_with fail
  exact bodyPost_end (results_none rfl _ _ _) rfl HF.out
set_option maxRecDepth 100000 in
theorem numL_rd {w : World} {p : Nat} {r : Option Nat} {fb t : Nat} {ty : TypeId} {cs : Array Value} {st : Option (List UInt8)} (h : RPre w p r fb t ty cs st) (o : Nat) (ho : o < cs.size) :
    Calls Try.prog 50 #[.pointer (some ⟨fb, 0, none⟩), .pointer (some ⟨t, o, none⟩)] w (RPost p r t ty o 1 st cs w dInt (fun w' cs' x => cs'[o]? = some (Value.int .i64 x))) := by
  obtain ⟨lg, hf⟩ := h.fld
  have c1 := hf.cell 1
  have C := Lib.hid (rint_st h.rs)
  have HP := Lib.hid h
  clear hf h
  go_enter Try.func50, Try.ntmps50
  go_wp2_with fail
  refine C.out.mono ?_
  rintro e w1 ⟨x, st', rfl, hR, hT, hS⟩
  have tk1 := hT.bk HP.out.tk HP.out.tp (by simp)
  have f1 := tk1.frozen o
  have e1 := tk1.cell o
  rw [Array.getElem?_eq_getElem ho] at e1
  have HF := Lib.hid (rpost_set (mk := Value.int .i64) HP.out o ho rfl hR hT hS)
  clear hR hT hS tk1 c1
  go_wp2_with fail
  exact bodyPost_end (results_none rfl _ _ _) rfl HF.out
set_option maxRecDepth 100000 in
theorem numM_rd {w : World} {p : Nat} {r : Option Nat} {fb t : Nat} {ty : TypeId} {cs : Array Value} {st : Option (List UInt8)} (h : RPre w p r fb t ty cs st) (o : Nat) (ho : o < cs.size) :
    Calls Try.prog 59 #[.pointer (some ⟨fb, 0, none⟩), .pointer (some ⟨t, o, none⟩)] w (RPost p r t ty o 1 st cs w dInt (fun w' cs' x => cs'[o]? = some (Value.int .i64 x))) := by
  obtain ⟨lg, hf⟩ := h.fld
  have c1 := hf.cell 1
  have C := Lib.hid (rint_st h.rs)
  have HP := Lib.hid h
  clear hf h
  go_enter Try.func59, Try.ntmps59
  go_wp2_with fail
  refine C.out.mono ?_
  rintro e w1 ⟨x, st', rfl, hR, hT, hS⟩
  have tk1 := hT.bk HP.out.tk HP.out.tp (by simp)
  have f1 := tk1.frozen o
  have e1 := tk1.cell o
  rw [Array.getElem?_eq_getElem ho] at e1
  have HF := Lib.hid (rpost_set (mk := Value.int .i64) HP.out o ho rfl hR hT hS)
  clear hR hT hS tk1 c1
  go_wp2_with fail
  exact bodyPost_end (results_none rfl _ _ _) rfl HF.out
set_option maxRecDepth 100000 in
theorem text_rd {w : World} {p : Nat} {r : Option Nat} {fb t : Nat} {ty : TypeId} {cs : Array Value} {st : Option (List UInt8)} (h : RPre w p r fb t ty cs st) (o : Nat) (ho : o < cs.size) :
    Calls Try.prog 36 #[.pointer (some ⟨fb, 0, none⟩), .pointer (some ⟨t, o, none⟩)] w (RPost p r t ty o 1 st cs w dStr (fun w' cs' x => cs'[o]? = some (Value.string x))) := by
  obtain ⟨lg, hf⟩ := h.fld
  have c1 := hf.cell 1
  have C := Lib.hid (rtext_st h.rs)
  have HP := Lib.hid h
  clear hf h
  go_enter Try.func36, Try.ntmps36
  go_wp2_with fail
  refine C.out.mono ?_
  rintro e w1 ⟨x, st', rfl, hR, hT, hS⟩
  have tk1 := hT.bk HP.out.tk HP.out.tp (by simp)
  have f1 := tk1.frozen o
  have e1 := tk1.cell o
  rw [Array.getElem?_eq_getElem ho] at e1
  have HF := Lib.hid (rpost_set (mk := Value.string) HP.out o ho rfl hR hT hS)
  clear hR hT hS tk1 c1
  go_wp2_with fail
  exact bodyPost_ret (results_none rfl _ _ _) rfl HF.out
theorem rs_bad {w : World} {p : Nat} {r : Option Nat} {st : Option (List UInt8)} (h : RS w p r st) : RS (w.setCell ⟨p, 1, none⟩ (.bool true)) p r none := by
  have key : ∀ bs bad, RdO w p r bs bad → RdO (w.setCell ⟨p, 1, none⟩ (.bool true)) p r bs true := fun bs bad h => by
    have hT := (PTouch.refl p none w).setCell (a := ⟨p, 1, none⟩) rfl (.bool true)
    obtain ⟨A, c, hk, hS, hAr, hrp, hrl⟩ := h
    have hAne : ∀ ad, A = some ad → ad.block ≠ p := fun ad e => by
      subst e
      intro e2
      rw [← hAr] at hrp
      exact hrp (by simp [e2])
    exact ⟨A, c, by simpa using hk.set 1 (.bool true), hS.far hT.size fun ad e => Below.heap_setCell w ⟨p, 1, none⟩ _ ad.block (hAne ad e), hAr, hrp, fun k e => Nat.lt_of_lt_of_le (hrl k e) hT.size⟩
  cases st with
  | none => obtain ⟨bs, h1, h2⟩ := h; exact ⟨bs, key _ _ h1, h2⟩
  | some bs => exact ⟨bs, key _ _ h.1, h.2⟩
theorem rs_frozen {w : World} {p : Nat} {r : Option Nat} {st : Option (List UInt8)} (h : RS w p r st) : w.frozen? ⟨p, 1, none⟩ = false ∧ ∃ b, w.cell? ⟨p, 1, none⟩ = some (.bool b) := by
  cases st with
  | none => obtain ⟨bs, ⟨A, c, hk, _⟩, h2⟩ := h; exact ⟨hk.frozen 1, _, hk.cell 1⟩
  | some bs => obtain ⟨⟨A, c, hk, _⟩, h2⟩ := h; exact ⟨hk.frozen 1, _, hk.cell 1⟩
set_option maxRecDepth 100000 in
theorem rtruth_st {w : World} {p : Nat} {r : Option Nat} {st : Option (List UInt8)} (h : RS w p r st) : Calls Try.prog 60 #[.pointer (some ⟨p, 0, none⟩)] w (RStep p r st w dTru (fun x => .bool x)) := by
  have C := Lib.hid (get_st 1 (.inl rfl) h)
  clear h
  go_enter Try.func60, Try.ntmps60
  go_wp2_with fail
  refine C.out.mono ?_
  rintro e w1 ⟨x, st', rfl, hR, hT, hS⟩
  by_cases hx : 1 < x
  · have hx' : (1 : Int) < (x : Int) := by omega
    have hx1 : ¬ (x : Int) = 1 := by omega
    obtain ⟨f1, b, e1⟩ := rs_frozen hR
    have HF := Lib.hid (show RStep p r st w dTru (fun x => .bool x) (.returned (.bool false)) (w1.setCell ⟨p, 1, none⟩ (.bool true)) from by
      refine ⟨false, none, rfl, rs_bad hR, hT.setCell (a := ⟨p, 1, none⟩) rfl _, fun _ e => (by cases e), fun _ bs e => ?_⟩
      unfold dTru
      cases st' with
      | none => rw [hS.2 rfl bs e]; rfl
      | some rest =>
        obtain ⟨bs', y, g1, g2, g3⟩ := hS.1 rest rfl
        rw [e] at g1
        injection g1 with g1
        subst g1 g3
        rw [g2]
        simp [Option.filter]
        omega)
    clear hR hT hS
    go_wp2_with fail
    go_ret
    have e2 : ((x : Int) == 1) = false := by simp; omega
    first
      | exact HF.out
      | (rw [e2]; exact HF.out)
  · have hx' : ¬ (1 : Int) < (x : Int) := by omega
    have HF := Lib.hid (show RStep p r st w dTru (fun x => .bool x) (.returned (.bool ((x : Int) == 1))) w1 from by
      refine ⟨_, st', rfl, hR, hT, fun rest e => ?_, fun e bs hb => ?_⟩
      · obtain ⟨bs', y, g1, g2, g3⟩ := hS.1 rest e
        subst g3
        refine ⟨bs', decide (y = 1), g1, ?_, ?_⟩
        · unfold dTru
          rw [g2]
          simp [Option.filter]
          omega
        · show decide (y = 1) = ((y : Int) == 1)
          rw [Bool.eq_iff_iff]
          simp
          omega
      · unfold dTru
        rw [hS.2 e bs hb]
        rfl)
    clear hR hT hS
    go_wp2_with fail
    go_ret
    exact HF.out
set_option maxRecDepth 100000 in
theorem truth_rd {w : World} {p : Nat} {r : Option Nat} {fb t : Nat} {ty : TypeId} {cs : Array Value} {st : Option (List UInt8)} (h : RPre w p r fb t ty cs st) (o : Nat) (ho : o < cs.size) :
    Calls Try.prog 51 #[.pointer (some ⟨fb, 0, none⟩), .pointer (some ⟨t, o, none⟩)] w (RPost p r t ty o 1 st cs w dTru (fun w' cs' x => cs'[o]? = some (Value.bool x))) := by
  obtain ⟨lg, hf⟩ := h.fld
  have c1 := hf.cell 1
  have C := Lib.hid (rtruth_st h.rs)
  have HP := Lib.hid h
  clear hf h
  go_enter Try.func51, Try.ntmps51
  go_wp2_with fail
  refine C.out.mono ?_
  rintro e w1 ⟨x, st', rfl, hR, hT, hS⟩
  have tk1 := hT.bk HP.out.tk HP.out.tp (by simp)
  have f1 := tk1.frozen o
  have e1 := tk1.cell o
  rw [Array.getElem?_eq_getElem ho] at e1
  have HF := Lib.hid (rpost_set (mk := Value.bool) HP.out o ho rfl hR hT hS)
  clear hR hT hS tk1 c1
  go_wp2_with fail
  exact bodyPost_end (results_none rfl _ _ _) rfl HF.out
end Go.Proofs.Ythdjfcfbmmmmcaa
