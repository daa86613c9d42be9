/-
  Reading label, require, metric, policy, scaled, resources with a reader.
-/
import Derived.Test.YthdjfcfbmmmmcaaRp2
namespace Go.Proofs.Ythdjfcfbmmmmcaa
open Go.RowKit Go.Proofs.Mem
set_option linter.unusedVariables false
set_option linter.unusedSimpArgs false
section
variable {α β γ δ : Type} {a : Dec α} {b : Dec β} {c : Dec γ} {st st1 st2 : Option (List UInt8)} {X : α × β → Prop} {X2 : γ → Prop}
theorem dPair_assoc (a : Dec α) (b : Dec β) (c : Dec γ) (bs : List UInt8) : dPair a (dPair b c) bs = (dPair (dPair a b) c bs).map fun q => ((q.1.1.1, (q.1.1.2, q.1.2)), q.2) := by
  simp only [dPair, Dec.then]
  cases a bs with
  | none => rfl
  | some x =>
    dsimp only
    cases b x.2 with
    | none => rfl
    | some y =>
      dsimp only
      cases c y.2 with
      | none => rfl
      | some z => rfl
theorem Stp.assoc (h : Stp (dPair a b) st st1 X) (k : Stp c st1 st2 X2) : Stp (dPair a (dPair b c)) st st2 (fun q => X (q.1, q.2.1) ∧ X2 q.2.2) := by
  have hk := h.pair k
  refine ⟨fun rest e => ?_, fun e bs hb => ?_⟩
  · obtain ⟨bs, x, h1, h2, h3, h4⟩ := hk.1 rest e
    refine ⟨bs, (x.1.1, (x.1.2, x.2)), h1, ?_, h3, h4⟩
    rw [dPair_assoc, h2]
    rfl
  · rw [dPair_assoc, hk.2 e bs hb]
    rfl
end
set_option maxRecDepth 100000 in
theorem label_rd {w : World} {p : Nat} {r : Option Nat} {fb t : Nat} {ty : TypeId} {cs : Array Value} {st : Option (List UInt8)} (h : RPre w p r fb t ty cs st) (o : Nat) (ho : o + 2 ≤ cs.size) :
    Calls Try.prog 47 #[.pointer (some ⟨fb, 0, none⟩), .pointer (some ⟨t, o, none⟩)] w (RPost p r t ty o 2 st cs w dLab (fun w' cs' x => cs'[o]? = some (.string x.key) ∧ cs'[o + 1]? = some (.string x.value))) := by
  have H0 := Lib.hid h
  clear h
  go_enter Try.func47, Try.ntmps47
  go_wp2_with fail
  refine (text_rd H0.out (o) (by omega)).mono ?_
  rintro e w1 ⟨rfl, st1, cs1, hR1, tk1, F1, one1, T1, S1⟩
  have H1 := Lib.hid (H0.out.next hR1 tk1 one1 T1)
  go_wp2_with fail
  refine (text_rd H1.out (o + 1) (by rw [F1.size]; omega)).mono ?_
  rintro e w2 ⟨rfl, st2, cs2, hR2, tk2, F2, one2, T2, S2⟩
  have H2 := Lib.hid (H1.out.next hR2 tk2 one2 T2)
  have HF := Lib.hid (show RPost p r t ty o 2 st cs w dLab (fun w' cs' x => cs'[o]? = some (.string x.key) ∧ cs'[o + 1]? = some (.string x.value)) (.returned (.tuple #[])) w2 from
    ⟨rfl, st2, cs2, hR2, tk2, (F1.trans F2 (by omega) (by omega) (by omega) (by omega) : Fr _ _ o 2), one2, (T1.trans T2 (.inl rfl)), (Stp.map ((S1.mono (Y := fun x => cs2[o]? = some (.string x)) (fun x hx => ((F2.out _ (.inl (by omega))).trans hx))).pair S2) (fun q => Lab.mk q.1 q.2) (fun x hx => hx))⟩)
  clear hR1 tk1 F1 one1 T1 S1 hR2 tk2 F2 one2 T2 S2
  go_wp2_with fail
  exact bodyPost_end (results_none rfl _ _ _) rfl HF.out
set_option maxRecDepth 100000 in
theorem require_rd {w : World} {p : Nat} {r : Option Nat} {fb t : Nat} {ty : TypeId} {cs : Array Value} {st : Option (List UInt8)} (h : RPre w p r fb t ty cs st) (o : Nat) (ho : o + 3 ≤ cs.size) :
    Calls Try.prog 49 #[.pointer (some ⟨fb, 0, none⟩), .pointer (some ⟨t, o, none⟩)] w (RPost p r t ty o 3 st cs w dReq (fun w' cs' x => cs'[o]? = some (.string x.key) ∧ cs'[o + 1]? = some (.string x.value) ∧ cs'[o + 2]? = some (.int .i64 x.op))) := by
  have H0 := Lib.hid h
  clear h
  go_enter Try.func49, Try.ntmps49
  go_wp2_with fail
  refine (text_rd H0.out (o) (by omega)).mono ?_
  rintro e w1 ⟨rfl, st1, cs1, hR1, tk1, F1, one1, T1, S1⟩
  have H1 := Lib.hid (H0.out.next hR1 tk1 one1 T1)
  go_wp2_with fail
  refine (text_rd H1.out (o + 1) (by rw [F1.size]; omega)).mono ?_
  rintro e w2 ⟨rfl, st2, cs2, hR2, tk2, F2, one2, T2, S2⟩
  have H2 := Lib.hid (H1.out.next hR2 tk2 one2 T2)
  go_wp2_with fail
  refine (numI_rd H2.out (o + 2) (by rw [F2.size, F1.size]; omega)).mono ?_
  rintro e w3 ⟨rfl, st3, cs3, hR3, tk3, F3, one3, T3, S3⟩
  have H3 := Lib.hid (H2.out.next hR3 tk3 one3 T3)
  have HF := Lib.hid (show RPost p r t ty o 3 st cs w dReq (fun w' cs' x => cs'[o]? = some (.string x.key) ∧ cs'[o + 1]? = some (.string x.value) ∧ cs'[o + 2]? = some (.int .i64 x.op)) (.returned (.tuple #[])) w3 from
    ⟨rfl, st3, cs3, hR3, tk3, ((F1.trans F2 (by omega) (by omega) (by omega) (by omega) : Fr _ _ o 2).trans F3 (by omega) (by omega) (by omega) (by omega) : Fr _ _ o 3), one3, ((T1.trans T2 (.inl rfl)).trans T3 (.inl rfl)), (Stp.map ((S1.mono (Y := fun x => cs3[o]? = some (.string x)) (fun x hx => ((F3.out _ (.inl (by omega))).trans ((F2.out _ (.inl (by omega))).trans hx)))).pair ((S2.mono (Y := fun x => cs3[o + 1]? = some (.string x)) (fun x hx => ((F3.out _ (.inl (by omega))).trans hx))).pair S3)) (fun q => Req.mk q.1 q.2.1 q.2.2) (fun x hx => hx))⟩)
  clear hR1 tk1 F1 one1 T1 S1 hR2 tk2 F2 one2 T2 S2 hR3 tk3 F3 one3 T3 S3
  go_wp2_with fail
  exact bodyPost_end (results_none rfl _ _ _) rfl HF.out
set_option maxRecDepth 100000 in
theorem metric_rd {w : World} {p : Nat} {r : Option Nat} {fb t : Nat} {ty : TypeId} {cs : Array Value} {st : Option (List UInt8)} (h : RPre w p r fb t ty cs st) (o : Nat) (ho : o + 3 ≤ cs.size) :
    Calls Try.prog 53 #[.pointer (some ⟨fb, 0, none⟩), .pointer (some ⟨t, o, none⟩)] w (RPost p r t ty o 3 st cs w dMet (fun w' cs' x => cs'[o]? = some (.int .i64 x.kind) ∧ cs'[o + 1]? = some (.string x.name) ∧ cs'[o + 2]? = some (.int .i64 x.target))) := by
  have H0 := Lib.hid h
  clear h
  go_enter Try.func53, Try.ntmps53
  go_wp2_with fail
  refine (numI_rd H0.out (o) (by omega)).mono ?_
  rintro e w1 ⟨rfl, st1, cs1, hR1, tk1, F1, one1, T1, S1⟩
  have H1 := Lib.hid (H0.out.next hR1 tk1 one1 T1)
  go_wp2_with fail
  refine (text_rd H1.out (o + 1) (by rw [F1.size]; omega)).mono ?_
  rintro e w2 ⟨rfl, st2, cs2, hR2, tk2, F2, one2, T2, S2⟩
  have H2 := Lib.hid (H1.out.next hR2 tk2 one2 T2)
  go_wp2_with fail
  refine (numM_rd H2.out (o + 2) (by rw [F2.size, F1.size]; omega)).mono ?_
  rintro e w3 ⟨rfl, st3, cs3, hR3, tk3, F3, one3, T3, S3⟩
  have H3 := Lib.hid (H2.out.next hR3 tk3 one3 T3)
  have HF := Lib.hid (show RPost p r t ty o 3 st cs w dMet (fun w' cs' x => cs'[o]? = some (.int .i64 x.kind) ∧ cs'[o + 1]? = some (.string x.name) ∧ cs'[o + 2]? = some (.int .i64 x.target)) (.returned (.tuple #[])) w3 from
    ⟨rfl, st3, cs3, hR3, tk3, ((F1.trans F2 (by omega) (by omega) (by omega) (by omega) : Fr _ _ o 2).trans F3 (by omega) (by omega) (by omega) (by omega) : Fr _ _ o 3), one3, ((T1.trans T2 (.inl rfl)).trans T3 (.inl rfl)), (Stp.map ((S1.mono (Y := fun x => cs3[o]? = some (.int .i64 x)) (fun x hx => ((F3.out _ (.inl (by omega))).trans ((F2.out _ (.inl (by omega))).trans hx)))).pair ((S2.mono (Y := fun x => cs3[o + 1]? = some (.string x)) (fun x hx => ((F3.out _ (.inl (by omega))).trans hx))).pair S3)) (fun q => Mem.Met.mk q.1 q.2.1 q.2.2) (fun x hx => hx))⟩)
  clear hR1 tk1 F1 one1 T1 S1 hR2 tk2 F2 one2 T2 S2 hR3 tk3 F3 one3 T3 S3
  go_wp2_with fail
  exact bodyPost_end (results_none rfl _ _ _) rfl HF.out
set_option maxRecDepth 100000 in
theorem policy_rd {w : World} {p : Nat} {r : Option Nat} {fb t : Nat} {ty : TypeId} {cs : Array Value} {st : Option (List UInt8)} (h : RPre w p r fb t ty cs st) (o : Nat) (ho : o + 3 ≤ cs.size) :
    Calls Try.prog 62 #[.pointer (some ⟨fb, 0, none⟩), .pointer (some ⟨t, o, none⟩)] w (RPost p r t ty o 3 st cs w dPol (fun w' cs' x => cs'[o]? = some (.bool x.pct) ∧ cs'[o + 1]? = some (.int .i64 x.value) ∧ cs'[o + 2]? = some (.int .i64 x.period))) := by
  have H0 := Lib.hid h
  clear h
  go_enter Try.func62, Try.ntmps62
  go_wp2_with fail
  refine (truth_rd H0.out (o) (by omega)).mono ?_
  rintro e w1 ⟨rfl, st1, cs1, hR1, tk1, F1, one1, T1, S1⟩
  have H1 := Lib.hid (H0.out.next hR1 tk1 one1 T1)
  go_wp2_with fail
  refine (numI_rd H1.out (o + 1) (by rw [F1.size]; omega)).mono ?_
  rintro e w2 ⟨rfl, st2, cs2, hR2, tk2, F2, one2, T2, S2⟩
  have H2 := Lib.hid (H1.out.next hR2 tk2 one2 T2)
  go_wp2_with fail
  refine (numI_rd H2.out (o + 2) (by rw [F2.size, F1.size]; omega)).mono ?_
  rintro e w3 ⟨rfl, st3, cs3, hR3, tk3, F3, one3, T3, S3⟩
  have H3 := Lib.hid (H2.out.next hR3 tk3 one3 T3)
  have HF := Lib.hid (show RPost p r t ty o 3 st cs w dPol (fun w' cs' x => cs'[o]? = some (.bool x.pct) ∧ cs'[o + 1]? = some (.int .i64 x.value) ∧ cs'[o + 2]? = some (.int .i64 x.period)) (.returned (.tuple #[])) w3 from
    ⟨rfl, st3, cs3, hR3, tk3, ((F1.trans F2 (by omega) (by omega) (by omega) (by omega) : Fr _ _ o 2).trans F3 (by omega) (by omega) (by omega) (by omega) : Fr _ _ o 3), one3, ((T1.trans T2 (.inl rfl)).trans T3 (.inl rfl)), (Stp.map ((S1.mono (Y := fun x => cs3[o]? = some (.bool x)) (fun x hx => ((F3.out _ (.inl (by omega))).trans ((F2.out _ (.inl (by omega))).trans hx)))).pair ((S2.mono (Y := fun x => cs3[o + 1]? = some (.int .i64 x)) (fun x hx => ((F3.out _ (.inl (by omega))).trans hx))).pair S3)) (fun q => Pol.mk q.1 q.2.1 q.2.2) (fun x hx => hx))⟩)
  clear hR1 tk1 F1 one1 T1 S1 hR2 tk2 F2 one2 T2 S2 hR3 tk3 F3 one3 T3 S3
  go_wp2_with fail
  exact bodyPost_end (results_none rfl _ _ _) rfl HF.out
set_option maxRecDepth 100000 in
theorem scaled_rd {w : World} {p : Nat} {r : Option Nat} {fb t : Nat} {ty : TypeId} {cs : Array Value} {st : Option (List UInt8)} (h : RPre w p r fb t ty cs st) (o : Nat) (ho : o + 3 ≤ cs.size) :
    Calls Try.prog 56 #[.pointer (some ⟨fb, 0, none⟩), .pointer (some ⟨t, o, none⟩)] w (RPost p r t ty o 3 st cs w dDone (fun w' cs' x => cs'[o]? = some (.int .i64 x.at') ∧ cs'[o + 1]? = some (.int .i64 x.from') ∧ cs'[o + 2]? = some (.int .i64 x.to'))) := by
  have H0 := Lib.hid h
  clear h
  go_enter Try.func56, Try.ntmps56
  go_wp2_with fail
  refine (numL_rd H0.out (o) (by omega)).mono ?_
  rintro e w1 ⟨rfl, st1, cs1, hR1, tk1, F1, one1, T1, S1⟩
  have H1 := Lib.hid (H0.out.next hR1 tk1 one1 T1)
  go_wp2_with fail
  refine (numI_rd H1.out (o + 1) (by rw [F1.size]; omega)).mono ?_
  rintro e w2 ⟨rfl, st2, cs2, hR2, tk2, F2, one2, T2, S2⟩
  have H2 := Lib.hid (H1.out.next hR2 tk2 one2 T2)
  go_wp2_with fail
  refine (numI_rd H2.out (o + 2) (by rw [F2.size, F1.size]; omega)).mono ?_
  rintro e w3 ⟨rfl, st3, cs3, hR3, tk3, F3, one3, T3, S3⟩
  have H3 := Lib.hid (H2.out.next hR3 tk3 one3 T3)
  have HF := Lib.hid (show RPost p r t ty o 3 st cs w dDone (fun w' cs' x => cs'[o]? = some (.int .i64 x.at') ∧ cs'[o + 1]? = some (.int .i64 x.from') ∧ cs'[o + 2]? = some (.int .i64 x.to')) (.returned (.tuple #[])) w3 from
    ⟨rfl, st3, cs3, hR3, tk3, ((F1.trans F2 (by omega) (by omega) (by omega) (by omega) : Fr _ _ o 2).trans F3 (by omega) (by omega) (by omega) (by omega) : Fr _ _ o 3), one3, ((T1.trans T2 (.inl rfl)).trans T3 (.inl rfl)), (Stp.map ((S1.mono (Y := fun x => cs3[o]? = some (.int .i64 x)) (fun x hx => ((F3.out _ (.inl (by omega))).trans ((F2.out _ (.inl (by omega))).trans hx)))).pair ((S2.mono (Y := fun x => cs3[o + 1]? = some (.int .i64 x)) (fun x hx => ((F3.out _ (.inl (by omega))).trans hx))).pair S3)) (fun q => Done.mk q.1 q.2.1 q.2.2) (fun x hx => hx))⟩)
  clear hR1 tk1 F1 one1 T1 S1 hR2 tk2 F2 one2 T2 S2 hR3 tk3 F3 one3 T3 S3
  go_wp2_with fail
  exact bodyPost_end (results_none rfl _ _ _) rfl HF.out
set_option maxRecDepth 100000 in
theorem res_rd {w : World} {p : Nat} {r : Option Nat} {fb t : Nat} {ty : TypeId} {cs : Array Value} {st : Option (List UInt8)} (h : RPre w p r fb t ty cs st) (o : Nat) (ho : o + 2 ≤ cs.size) :
    Calls Try.prog 45 #[.pointer (some ⟨fb, 0, none⟩), .pointer (some ⟨t, o, none⟩)] w (RPost p r t ty o 2 st cs w (dPair dInt dInt) (fun w' cs' x => cs'[o]? = some (.int .i64 x.1) ∧ cs'[o + 1]? = some (.int .i64 x.2))) := by
  have H0 := Lib.hid h
  clear h
  go_enter Try.func45, Try.ntmps45
  go_wp2_with fail
  refine (numM_rd H0.out (o) (by omega)).mono ?_
  rintro e w1 ⟨rfl, st1, cs1, hR1, tk1, F1, one1, T1, S1⟩
  have H1 := Lib.hid (H0.out.next hR1 tk1 one1 T1)
  go_wp2_with fail
  refine (numM_rd H1.out (o + 1) (by rw [F1.size]; omega)).mono ?_
  rintro e w2 ⟨rfl, st2, cs2, hR2, tk2, F2, one2, T2, S2⟩
  have H2 := Lib.hid (H1.out.next hR2 tk2 one2 T2)
  have HF := Lib.hid (show RPost p r t ty o 2 st cs w (dPair dInt dInt) (fun w' cs' x => cs'[o]? = some (.int .i64 x.1) ∧ cs'[o + 1]? = some (.int .i64 x.2)) (.returned (.tuple #[])) w2 from
    ⟨rfl, st2, cs2, hR2, tk2, (F1.trans F2 (by omega) (by omega) (by omega) (by omega) : Fr _ _ o 2), one2, (T1.trans T2 (.inl rfl)), (((S1.mono (Y := fun x => cs2[o]? = some (.int .i64 x)) (fun x hx => ((F2.out _ (.inl (by omega))).trans hx))).pair S2).mono (fun x hx => hx))⟩)
  clear hR1 tk1 F1 one1 T1 S1 hR2 tk2 F2 one2 T2 S2
  go_wp2_with fail
  exact bodyPost_end (results_none rfl _ _ _) rfl HF.out
end Go.Proofs.Ythdjfcfbmmmmcaa
