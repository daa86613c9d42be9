/-
  Writing rows: the walks of row of package octet, with a writer. (printed by wip/gen_wp4.py)
-/
import Derived.Test.YthdjfcfbmmmmcaaWpA
import Derived.Test.YthdjfcfbmmmmcaaRef6c
namespace Go.Proofs.Ythdjfcfbmmmmcaa
open Go.RowKit Go.Proofs.Mem
set_option linter.unusedVariables false
set_option linter.unusedSimpArgs false
theorem WD.sub {p fb : Nat} {r r1 : Option Nat} {bs bs1 out : List UInt8} {lg lg1 : Bool} {w w0 w1 : World} {ok : Prop} {K : Nat} (hb : Below w.heap.size w w0) (k : WD p r fb bs lg w0 ok out K r1 bs1 lg1 w1) : WD p r fb bs lg w ok out K r1 bs1 lg1 w1 := by
  refine ⟨k.wt, k.len, k.fld, ?_, (WT.of_below hb).trans k.touch (.inl rfl), k.ws⟩
  rcases k.row with e | ⟨g, e, hg⟩
  · exact .inl e
  · exact .inr ⟨g, e, Nat.le_trans hb.size hg⟩
theorem row_snoc {α : Type} {l : List α} {k : Nat} (hk : k < l.length) {n : Nat} {ok : α → Prop} {e : α → List UInt8} {p fb : Nat} {r r1 r2 : Option Nat} {bs bs1 bs2 : List UInt8} {lg lg1 lg2 : Bool} {w w1 w2 : World} {K K1 : Nat} (m : Nat) (hK : m + k * K1 = K)
    (h : WD p r fb bs lg w (n < 256 ∧ ∀ x ∈ l.take k, ok x) (putL n 1 ++ (l.take k).flatMap e) K r1 bs1 lg1 w1) (d : WD p r1 fb bs1 lg1 w1 (ok l[k]) (e l[k]) K1 r2 bs2 lg2 w2) :
    WD p r fb bs lg w (n < 256 ∧ ∀ x ∈ l.take (k + 1), ok x) (putL n 1 ++ (l.take (k + 1)).flatMap e) (m + (k + 1) * K1) r2 bs2 lg2 w2 := by
  refine (h.pairA d).conv ?_ ?_ (by rw [Nat.succ_mul]; omega)
  · rw [List.take_succ_eq_append_getElem hk]
    constructor
    · rintro ⟨h1, h2, h3⟩
      refine ⟨h1, fun x hx => ?_⟩
      rcases List.mem_append.1 hx with hx | hx
      · exact h2 x hx
      · rw [List.mem_singleton] at hx; subst hx; exact h3
    · rintro ⟨h1, h2⟩
      exact ⟨h1, fun x hx => h2 x (List.mem_append_left _ hx), h2 _ (List.mem_append_right _ (by simp))⟩
  · rw [List.take_succ_eq_append_getElem hk, List.flatMap_append, List.flatMap_singleton]
set_option maxHeartbeats 1000000 in
set_option maxRecDepth 100000 in
theorem rowLab_wr {W w : World} {p fb t : Nat} {r : Option Nat} {ty : TypeId} {cs : Array Value} {bs : List UInt8} {lg : Bool} {N : Nat} (h : WPre W w p r fb t ty cs bs lg N) (hN : N ≤ 90000000) (o : Nat) (R : Row Lab) (hz : cs[o]? = some R.v) (hR : LabsOk W R) (hl : R.l.length ≤ 300) :
    Calls Try.prog 46 #[.pointer (some ⟨fb, 0, none⟩), .pointer (some ⟨t, o, none⟩), .func (.func 47) #[] #[]] w (WPost p r fb bs lg w (okRow okLab R.l) (eRow eLab R.l) (1 + 300 * 512)) := by
  obtain ⟨v, l⟩ := R
  obtain ⟨hS, _, hWf⟩ := hR
  simp only at hS hWf hl hz ⊢
  obtain ⟨A, c, rfl, hc, _⟩ := id hS
  have H0 := Lib.hid h
  have c0 := h.fld.cell 0
  have c1 := h.fld.cell 1
  have c2 := h.fld.cell 2
  have f2 := h.fld.frozen 2
  have co := (h.tk.cell o).trans hz
  have hwr : IntKind.u64.wrap (l.length : Int) = (l.length : Int) := by unfold IntKind.wrap; simp [IntKind.signed, IntKind.bits]; omega
  have HC := Lib.hid (fun (lg' : Bool) (hlg : lg' = true ↔ lg = true ∨ ¬ (l.length < 256 ∧ ∀ x ∈ l.take 0, okLab x)) => (wput_ok l.length 1 (by omega) (.inl rfl) (w.setCell ⟨fb, 2, none⟩ (.bool lg')).drew (wt_drew (wt_mark h (.bool lg'))) (by have := h.len; omega)).mono (R' := fun e w' => e = .returned (.tuple #[]) ∧ WPost p r fb bs lg w (l.length < 256 ∧ ∀ x ∈ l.take 0, okLab x) (putL l.length 1 ++ (l.take 0).flatMap eLab) 1 e w') (fun e w' ⟨h1, h2⟩ => ⟨h1, h1 ▸ wd_mark h lg' (out := putL l.length 1) (o2 := (putL l.length 1 ++ (l.take 0).flatMap eLab)) (wdone_drew h2) hlg (fun hk => by simp) (by rw [putL_len]; omega)⟩))
  have hd0 : ∀ u, (w.setCell ⟨fb, 2, none⟩ u).cell? ⟨fb, 0, none⟩ = some (.pointer (some ⟨p, 0, none⟩)) := fun u => by
    have := (h.fld.set 2 u).cell 0
    simpa using this
  have hdo : ∀ u, (w.setCell ⟨fb, 2, none⟩ u).cell? ⟨t, o, none⟩ = some (.slice A l.length c) := fun u => ((h.tk.far (p := ⟨fb, 2, none⟩) h.tf u).cell o).trans hz
  have HN : Hid ((l.length < 256 ∧ ∀ x ∈ l.take 0, okLab x) ↔ l.length ≤ 255) := Lib.hid ⟨fun hh => by have := hh.1; omega, fun hh => ⟨by omega, fun x hx => by simp at hx⟩⟩
  have HD := Lib.hid (And.intro hd0 hdo)
  have HZ := Lib.hid hz
  have HS := Lib.hid hS
  have HW := Lib.hid hWf
  clear h hz hd0 hdo hS hWf
  cases lg with
  | true =>
    have C := Lib.hid (HC.out true (by simp))
    have y0 : (w.setCell ⟨fb, 2, none⟩ (.bool true)).cell? ⟨fb, 0, none⟩ = some (.pointer (some ⟨p, 0, none⟩)) := HD.out.1 _
    have yo : (w.setCell ⟨fb, 2, none⟩ (.bool true)).cell? ⟨t, o, none⟩ = some (.slice A l.length c) := HD.out.2 _
    clear HC HN
    go_enter Try.func46, Try.ntmps46
    go_wp2_with fail
    have S0 : (w.setCell ⟨fb, 2, none⟩ (.bool true)).drew.cell? ⟨fb, 0, none⟩ = some (.pointer (some ⟨p, 0, none⟩)) ∧ (w.setCell ⟨fb, 2, none⟩ (.bool true)).drew.cell? ⟨t, o, none⟩ = some (.slice A l.length c) := ⟨y0, yo⟩
    clear c0 c1 c2 f2 co y0 yo
    go_region_held3 (fun w' => w'.cell? ⟨fb, 0, none⟩ = some (.pointer (some ⟨p, 0, none⟩)) ∧ w'.cell? ⟨t, o, none⟩ = some (.slice A l.length c))
      (first | (with_reducible exact S0) | (with_reducible exact S5))
      ((go_at_call 16; refine C.out.mono ?_; rintro e w1 ⟨rfl, hPo⟩; obtain ⟨-, r1, bs1, lg1, D1⟩ := hPo; have HP1 := H0.out.next D1; have E1 := Lib.hid D1; clear D1; have S5 : w1.cell? ⟨fb, 0, none⟩ = some (.pointer (some ⟨p, 0, none⟩)) ∧ w1.cell? ⟨t, o, none⟩ = some (.slice A l.length c) := ⟨HP1.fld.cell 0, (HP1.tk.cell o).trans HZ.out⟩; clear HP1))
    have z1 := S5.2
    clear S0 S5 hwr
    go_wp2_with fail
    go_loopw [42] (fun i wr => ∃ (k : Nat) (r2 : Option Nat) (bs2 : List UInt8) (lg2 : Bool), i = .int .i64 k ∧ k ≤ l.length ∧ WD p r fb bs true w (l.length < 256 ∧ ∀ x ∈ l.take k, okLab x) (putL l.length 1 ++ (l.take k).flatMap eLab) (1 + k * 512) r2 bs2 lg2 wr) (fun i wr => l.length - (intOf i).toNat)
    case atStart => exact ⟨0, r1, bs1, lg1, rfl, Nat.zero_le _, by simpa using E1.out⟩
    case round =>
      obtain ⟨k, r2, bs2, lg2, rfl, hk, hD⟩ := hrel
      have HD2 := Lib.hid hD
      have HP := Lib.hid (H0.out.next hD)
      clear hD
      by_cases hlt : k < l.length
      · have hk3 : k ≤ 300 := by omega
        obtain ⟨b, o1, rfl, hbl, hadd, hcell⟩ := Sl.row' (s := 2) (f := Lab.cells) (fun _ => rfl) (by omega) (HS.out.below HP.out.bl) k hlt
        have hto := (HP.out.tk.cell o).trans HZ.out
        have a0 : wr.cell? ⟨b, o1 + k * 2, none⟩ = some (.string (l[k]).key) := hcell 0 _ rfl
        have a1 : wr.cell? ⟨b, o1 + k * 2 + 1, none⟩ = some (.string (l[k]).value) := hcell 1 _ rfl
        have H2 := Lib.hid (HP.out.fresh 106 (Lab.cells l[k]).toArray)
        have hx2 := Lib.hid (HW.out _ (List.getElem_mem hlt))
        have HE := Lib.hid (fun (r3 : Option Nat) (bs3 : List UInt8) (lg3 : Bool) (w3 : World) (d : WD p r2 fb bs2 lg2 (wr.alloc (.cells (Lab.cells l[k]).toArray 106)) (okLab l[k]) (eLab l[k]) 512 r3 bs3 lg3 w3) => row_snoc hlt 1 rfl HD2.out (d.sub (below_al _ _)))
        clear hcell
        generalize l[k] = x at a0 a1 hx2 H2 HE
        clear HD2
        go_wp2_with fail
        refine (label_wr H2.out (by omega) 0 x (fun i hi => by rw [Nat.zero_add]; simp) hx2.out).mono ?_
        rintro e w3 ⟨rfl, r3, bs3, lg3, D3⟩
        have HF := Lib.hid (HE.out _ _ _ _ D3)
        clear D3
        go_wp2_with fail
        exact ⟨⟨k + 1, r3, bs3, lg3, by go_num, by omega, HF.out⟩, by simp [intOf]; omega⟩
      · have hkl : k = l.length := by omega
        have HF := Lib.hid (show WPost p r fb bs true w (okRow okLab l) (eRow eLab l) (1 + 300 * 512) (.returned (.tuple #[])) wr from by
          refine ⟨rfl, r2, bs2, lg2, HD2.out.conv ?_ ?_ (by omega)⟩
          · unfold okRow; rw [hkl, List.take_length]
          · unfold eRow; rw [hkl, List.take_length])
        clear hkl
        go_wp2_with fail
        exact bodyPost_end (results_none rfl _ _ _) rfl HF.out
  | false =>
    have C := Lib.hid (HC.out (decide ((255 : Int) < ((l.length : Nat) : Int))) (by simp only [decide_eq_true_eq, Bool.false_eq_true, false_or]; rw [HN.out]; omega))
    have y0 : (w.setCell ⟨fb, 2, none⟩ (.bool (decide ((255 : Int) < ((l.length : Nat) : Int))))).cell? ⟨fb, 0, none⟩ = some (.pointer (some ⟨p, 0, none⟩)) := HD.out.1 _
    have yo : (w.setCell ⟨fb, 2, none⟩ (.bool (decide ((255 : Int) < ((l.length : Nat) : Int))))).cell? ⟨t, o, none⟩ = some (.slice A l.length c) := HD.out.2 _
    clear HC HN
    go_enter Try.func46, Try.ntmps46
    go_wp2_with fail
    have S0 : (w.setCell ⟨fb, 2, none⟩ (.bool (decide ((255 : Int) < ((l.length : Nat) : Int))))).drew.cell? ⟨fb, 0, none⟩ = some (.pointer (some ⟨p, 0, none⟩)) ∧ (w.setCell ⟨fb, 2, none⟩ (.bool (decide ((255 : Int) < ((l.length : Nat) : Int))))).drew.cell? ⟨t, o, none⟩ = some (.slice A l.length c) := ⟨y0, yo⟩
    clear c0 c1 c2 f2 co y0 yo
    go_region_held3 (fun w' => w'.cell? ⟨fb, 0, none⟩ = some (.pointer (some ⟨p, 0, none⟩)) ∧ w'.cell? ⟨t, o, none⟩ = some (.slice A l.length c))
      (first | (with_reducible exact S0) | (with_reducible exact S5))
      ((go_at_call 16; refine C.out.mono ?_; rintro e w1 ⟨rfl, hPo⟩; obtain ⟨-, r1, bs1, lg1, D1⟩ := hPo; have HP1 := H0.out.next D1; have E1 := Lib.hid D1; clear D1; have S5 : w1.cell? ⟨fb, 0, none⟩ = some (.pointer (some ⟨p, 0, none⟩)) ∧ w1.cell? ⟨t, o, none⟩ = some (.slice A l.length c) := ⟨HP1.fld.cell 0, (HP1.tk.cell o).trans HZ.out⟩; clear HP1))
    have z1 := S5.2
    clear S0 S5 hwr
    go_wp2_with fail
    go_loopw [42] (fun i wr => ∃ (k : Nat) (r2 : Option Nat) (bs2 : List UInt8) (lg2 : Bool), i = .int .i64 k ∧ k ≤ l.length ∧ WD p r fb bs false w (l.length < 256 ∧ ∀ x ∈ l.take k, okLab x) (putL l.length 1 ++ (l.take k).flatMap eLab) (1 + k * 512) r2 bs2 lg2 wr) (fun i wr => l.length - (intOf i).toNat)
    case atStart => exact ⟨0, r1, bs1, lg1, rfl, Nat.zero_le _, by simpa using E1.out⟩
    case round =>
      obtain ⟨k, r2, bs2, lg2, rfl, hk, hD⟩ := hrel
      have HD2 := Lib.hid hD
      have HP := Lib.hid (H0.out.next hD)
      clear hD
      by_cases hlt : k < l.length
      · have hk3 : k ≤ 300 := by omega
        obtain ⟨b, o1, rfl, hbl, hadd, hcell⟩ := Sl.row' (s := 2) (f := Lab.cells) (fun _ => rfl) (by omega) (HS.out.below HP.out.bl) k hlt
        have hto := (HP.out.tk.cell o).trans HZ.out
        have a0 : wr.cell? ⟨b, o1 + k * 2, none⟩ = some (.string (l[k]).key) := hcell 0 _ rfl
        have a1 : wr.cell? ⟨b, o1 + k * 2 + 1, none⟩ = some (.string (l[k]).value) := hcell 1 _ rfl
        have H2 := Lib.hid (HP.out.fresh 106 (Lab.cells l[k]).toArray)
        have hx2 := Lib.hid (HW.out _ (List.getElem_mem hlt))
        have HE := Lib.hid (fun (r3 : Option Nat) (bs3 : List UInt8) (lg3 : Bool) (w3 : World) (d : WD p r2 fb bs2 lg2 (wr.alloc (.cells (Lab.cells l[k]).toArray 106)) (okLab l[k]) (eLab l[k]) 512 r3 bs3 lg3 w3) => row_snoc hlt 1 rfl HD2.out (d.sub (below_al _ _)))
        clear hcell
        generalize l[k] = x at a0 a1 hx2 H2 HE
        clear HD2
        go_wp2_with fail
        refine (label_wr H2.out (by omega) 0 x (fun i hi => by rw [Nat.zero_add]; simp) hx2.out).mono ?_
        rintro e w3 ⟨rfl, r3, bs3, lg3, D3⟩
        have HF := Lib.hid (HE.out _ _ _ _ D3)
        clear D3
        go_wp2_with fail
        exact ⟨⟨k + 1, r3, bs3, lg3, by go_num, by omega, HF.out⟩, by simp [intOf]; omega⟩
      · have hkl : k = l.length := by omega
        have HF := Lib.hid (show WPost p r fb bs false w (okRow okLab l) (eRow eLab l) (1 + 300 * 512) (.returned (.tuple #[])) wr from by
          refine ⟨rfl, r2, bs2, lg2, HD2.out.conv ?_ ?_ (by omega)⟩
          · unfold okRow; rw [hkl, List.take_length]
          · unfold eRow; rw [hkl, List.take_length])
        clear hkl
        go_wp2_with fail
        exact bodyPost_end (results_none rfl _ _ _) rfl HF.out
set_option maxHeartbeats 1000000 in
set_option maxRecDepth 100000 in
theorem rowReq_wr {W w : World} {p fb t : Nat} {r : Option Nat} {ty : TypeId} {cs : Array Value} {bs : List UInt8} {lg : Bool} {N : Nat} (h : WPre W w p r fb t ty cs bs lg N) (hN : N ≤ 90000000) (o : Nat) (R : Row Req) (hz : cs[o]? = some R.v) (hR : ReqsOk W R) (hl : R.l.length ≤ 300) :
    Calls Try.prog 48 #[.pointer (some ⟨fb, 0, none⟩), .pointer (some ⟨t, o, none⟩), .func (.func 49) #[] #[]] w (WPost p r fb bs lg w (okRow okReq R.l) (eRow eReq R.l) (1 + 300 * 520)) := by
  obtain ⟨v, l⟩ := R
  obtain ⟨hS, _, hWf⟩ := hR
  simp only at hS hWf hl hz ⊢
  obtain ⟨A, c, rfl, hc, _⟩ := id hS
  have H0 := Lib.hid h
  have c0 := h.fld.cell 0
  have c1 := h.fld.cell 1
  have c2 := h.fld.cell 2
  have f2 := h.fld.frozen 2
  have co := (h.tk.cell o).trans hz
  have hwr : IntKind.u64.wrap (l.length : Int) = (l.length : Int) := by unfold IntKind.wrap; simp [IntKind.signed, IntKind.bits]; omega
  have HC := Lib.hid (fun (lg' : Bool) (hlg : lg' = true ↔ lg = true ∨ ¬ (l.length < 256 ∧ ∀ x ∈ l.take 0, okReq x)) => (wput_ok l.length 1 (by omega) (.inl rfl) (w.setCell ⟨fb, 2, none⟩ (.bool lg')).drew (wt_drew (wt_mark h (.bool lg'))) (by have := h.len; omega)).mono (R' := fun e w' => e = .returned (.tuple #[]) ∧ WPost p r fb bs lg w (l.length < 256 ∧ ∀ x ∈ l.take 0, okReq x) (putL l.length 1 ++ (l.take 0).flatMap eReq) 1 e w') (fun e w' ⟨h1, h2⟩ => ⟨h1, h1 ▸ wd_mark h lg' (out := putL l.length 1) (o2 := (putL l.length 1 ++ (l.take 0).flatMap eReq)) (wdone_drew h2) hlg (fun hk => by simp) (by rw [putL_len]; omega)⟩))
  have hd0 : ∀ u, (w.setCell ⟨fb, 2, none⟩ u).cell? ⟨fb, 0, none⟩ = some (.pointer (some ⟨p, 0, none⟩)) := fun u => by
    have := (h.fld.set 2 u).cell 0
    simpa using this
  have hdo : ∀ u, (w.setCell ⟨fb, 2, none⟩ u).cell? ⟨t, o, none⟩ = some (.slice A l.length c) := fun u => ((h.tk.far (p := ⟨fb, 2, none⟩) h.tf u).cell o).trans hz
  have HN : Hid ((l.length < 256 ∧ ∀ x ∈ l.take 0, okReq x) ↔ l.length ≤ 255) := Lib.hid ⟨fun hh => by have := hh.1; omega, fun hh => ⟨by omega, fun x hx => by simp at hx⟩⟩
  have HD := Lib.hid (And.intro hd0 hdo)
  have HZ := Lib.hid hz
  have HS := Lib.hid hS
  have HW := Lib.hid hWf
  clear h hz hd0 hdo hS hWf
  cases lg with
  | true =>
    have C := Lib.hid (HC.out true (by simp))
    have y0 : (w.setCell ⟨fb, 2, none⟩ (.bool true)).cell? ⟨fb, 0, none⟩ = some (.pointer (some ⟨p, 0, none⟩)) := HD.out.1 _
    have yo : (w.setCell ⟨fb, 2, none⟩ (.bool true)).cell? ⟨t, o, none⟩ = some (.slice A l.length c) := HD.out.2 _
    clear HC HN
    go_enter Try.func48, Try.ntmps48
    go_wp2_with fail
    have S0 : (w.setCell ⟨fb, 2, none⟩ (.bool true)).drew.cell? ⟨fb, 0, none⟩ = some (.pointer (some ⟨p, 0, none⟩)) ∧ (w.setCell ⟨fb, 2, none⟩ (.bool true)).drew.cell? ⟨t, o, none⟩ = some (.slice A l.length c) := ⟨y0, yo⟩
    clear c0 c1 c2 f2 co y0 yo
    go_region_held3 (fun w' => w'.cell? ⟨fb, 0, none⟩ = some (.pointer (some ⟨p, 0, none⟩)) ∧ w'.cell? ⟨t, o, none⟩ = some (.slice A l.length c))
      (first | (with_reducible exact S0) | (with_reducible exact S5))
      ((go_at_call 16; refine C.out.mono ?_; rintro e w1 ⟨rfl, hPo⟩; obtain ⟨-, r1, bs1, lg1, D1⟩ := hPo; have HP1 := H0.out.next D1; have E1 := Lib.hid D1; clear D1; have S5 : w1.cell? ⟨fb, 0, none⟩ = some (.pointer (some ⟨p, 0, none⟩)) ∧ w1.cell? ⟨t, o, none⟩ = some (.slice A l.length c) := ⟨HP1.fld.cell 0, (HP1.tk.cell o).trans HZ.out⟩; clear HP1))
    have z1 := S5.2
    clear S0 S5 hwr
    go_wp2_with fail
    go_loopw [42] (fun i wr => ∃ (k : Nat) (r2 : Option Nat) (bs2 : List UInt8) (lg2 : Bool), i = .int .i64 k ∧ k ≤ l.length ∧ WD p r fb bs true w (l.length < 256 ∧ ∀ x ∈ l.take k, okReq x) (putL l.length 1 ++ (l.take k).flatMap eReq) (1 + k * 520) r2 bs2 lg2 wr) (fun i wr => l.length - (intOf i).toNat)
    case atStart => exact ⟨0, r1, bs1, lg1, rfl, Nat.zero_le _, by simpa using E1.out⟩
    case round =>
      obtain ⟨k, r2, bs2, lg2, rfl, hk, hD⟩ := hrel
      have HD2 := Lib.hid hD
      have HP := Lib.hid (H0.out.next hD)
      clear hD
      by_cases hlt : k < l.length
      · have hk3 : k ≤ 300 := by omega
        obtain ⟨b, o1, rfl, hbl, hadd, hcell⟩ := Sl.row' (s := 3) (f := Req.cells) (fun _ => rfl) (by omega) (HS.out.below HP.out.bl) k hlt
        have hto := (HP.out.tk.cell o).trans HZ.out
        have a0 : wr.cell? ⟨b, o1 + k * 3, none⟩ = some (.string (l[k]).key) := hcell 0 _ rfl
        have a1 : wr.cell? ⟨b, o1 + k * 3 + 1, none⟩ = some (.string (l[k]).value) := hcell 1 _ rfl
        have a2 : wr.cell? ⟨b, o1 + k * 3 + 2, none⟩ = some (.int .i64 (l[k]).op) := hcell 2 _ rfl
        have H2 := Lib.hid (HP.out.fresh 108 (Req.cells l[k]).toArray)
        have hx2 := Lib.hid (HW.out _ (List.getElem_mem hlt))
        have HE := Lib.hid (fun (r3 : Option Nat) (bs3 : List UInt8) (lg3 : Bool) (w3 : World) (d : WD p r2 fb bs2 lg2 (wr.alloc (.cells (Req.cells l[k]).toArray 108)) (okReq l[k]) (eReq l[k]) 520 r3 bs3 lg3 w3) => row_snoc hlt 1 rfl HD2.out (d.sub (below_al _ _)))
        clear hcell
        generalize l[k] = x at a0 a1 a2 hx2 H2 HE
        clear HD2
        go_wp2_with fail
        refine (require_wr H2.out (by omega) 0 x (fun i hi => by rw [Nat.zero_add]; simp) hx2.out).mono ?_
        rintro e w3 ⟨rfl, r3, bs3, lg3, D3⟩
        have HF := Lib.hid (HE.out _ _ _ _ D3)
        clear D3
        go_wp2_with fail
        exact ⟨⟨k + 1, r3, bs3, lg3, by go_num, by omega, HF.out⟩, by simp [intOf]; omega⟩
      · have hkl : k = l.length := by omega
        have HF := Lib.hid (show WPost p r fb bs true w (okRow okReq l) (eRow eReq l) (1 + 300 * 520) (.returned (.tuple #[])) wr from by
          refine ⟨rfl, r2, bs2, lg2, HD2.out.conv ?_ ?_ (by omega)⟩
          · unfold okRow; rw [hkl, List.take_length]
          · unfold eRow; rw [hkl, List.take_length])
        clear hkl
        go_wp2_with fail
        exact bodyPost_end (results_none rfl _ _ _) rfl HF.out
  | false =>
    have C := Lib.hid (HC.out (decide ((255 : Int) < ((l.length : Nat) : Int))) (by simp only [decide_eq_true_eq, Bool.false_eq_true, false_or]; rw [HN.out]; omega))
    have y0 : (w.setCell ⟨fb, 2, none⟩ (.bool (decide ((255 : Int) < ((l.length : Nat) : Int))))).cell? ⟨fb, 0, none⟩ = some (.pointer (some ⟨p, 0, none⟩)) := HD.out.1 _
    have yo : (w.setCell ⟨fb, 2, none⟩ (.bool (decide ((255 : Int) < ((l.length : Nat) : Int))))).cell? ⟨t, o, none⟩ = some (.slice A l.length c) := HD.out.2 _
    clear HC HN
    go_enter Try.func48, Try.ntmps48
    go_wp2_with fail
    have S0 : (w.setCell ⟨fb, 2, none⟩ (.bool (decide ((255 : Int) < ((l.length : Nat) : Int))))).drew.cell? ⟨fb, 0, none⟩ = some (.pointer (some ⟨p, 0, none⟩)) ∧ (w.setCell ⟨fb, 2, none⟩ (.bool (decide ((255 : Int) < ((l.length : Nat) : Int))))).drew.cell? ⟨t, o, none⟩ = some (.slice A l.length c) := ⟨y0, yo⟩
    clear c0 c1 c2 f2 co y0 yo
    go_region_held3 (fun w' => w'.cell? ⟨fb, 0, none⟩ = some (.pointer (some ⟨p, 0, none⟩)) ∧ w'.cell? ⟨t, o, none⟩ = some (.slice A l.length c))
      (first | (with_reducible exact S0) | (with_reducible exact S5))
      ((go_at_call 16; refine C.out.mono ?_; rintro e w1 ⟨rfl, hPo⟩; obtain ⟨-, r1, bs1, lg1, D1⟩ := hPo; have HP1 := H0.out.next D1; have E1 := Lib.hid D1; clear D1; have S5 : w1.cell? ⟨fb, 0, none⟩ = some (.pointer (some ⟨p, 0, none⟩)) ∧ w1.cell? ⟨t, o, none⟩ = some (.slice A l.length c) := ⟨HP1.fld.cell 0, (HP1.tk.cell o).trans HZ.out⟩; clear HP1))
    have z1 := S5.2
    clear S0 S5 hwr
    go_wp2_with fail
    go_loopw [42] (fun i wr => ∃ (k : Nat) (r2 : Option Nat) (bs2 : List UInt8) (lg2 : Bool), i = .int .i64 k ∧ k ≤ l.length ∧ WD p r fb bs false w (l.length < 256 ∧ ∀ x ∈ l.take k, okReq x) (putL l.length 1 ++ (l.take k).flatMap eReq) (1 + k * 520) r2 bs2 lg2 wr) (fun i wr => l.length - (intOf i).toNat)
    case atStart => exact ⟨0, r1, bs1, lg1, rfl, Nat.zero_le _, by simpa using E1.out⟩
    case round =>
      obtain ⟨k, r2, bs2, lg2, rfl, hk, hD⟩ := hrel
      have HD2 := Lib.hid hD
      have HP := Lib.hid (H0.out.next hD)
      clear hD
      by_cases hlt : k < l.length
      · have hk3 : k ≤ 300 := by omega
        obtain ⟨b, o1, rfl, hbl, hadd, hcell⟩ := Sl.row' (s := 3) (f := Req.cells) (fun _ => rfl) (by omega) (HS.out.below HP.out.bl) k hlt
        have hto := (HP.out.tk.cell o).trans HZ.out
        have a0 : wr.cell? ⟨b, o1 + k * 3, none⟩ = some (.string (l[k]).key) := hcell 0 _ rfl
        have a1 : wr.cell? ⟨b, o1 + k * 3 + 1, none⟩ = some (.string (l[k]).value) := hcell 1 _ rfl
        have a2 : wr.cell? ⟨b, o1 + k * 3 + 2, none⟩ = some (.int .i64 (l[k]).op) := hcell 2 _ rfl
        have H2 := Lib.hid (HP.out.fresh 108 (Req.cells l[k]).toArray)
        have hx2 := Lib.hid (HW.out _ (List.getElem_mem hlt))
        have HE := Lib.hid (fun (r3 : Option Nat) (bs3 : List UInt8) (lg3 : Bool) (w3 : World) (d : WD p r2 fb bs2 lg2 (wr.alloc (.cells (Req.cells l[k]).toArray 108)) (okReq l[k]) (eReq l[k]) 520 r3 bs3 lg3 w3) => row_snoc hlt 1 rfl HD2.out (d.sub (below_al _ _)))
        clear hcell
        generalize l[k] = x at a0 a1 a2 hx2 H2 HE
        clear HD2
        go_wp2_with fail
        refine (require_wr H2.out (by omega) 0 x (fun i hi => by rw [Nat.zero_add]; simp) hx2.out).mono ?_
        rintro e w3 ⟨rfl, r3, bs3, lg3, D3⟩
        have HF := Lib.hid (HE.out _ _ _ _ D3)
        clear D3
        go_wp2_with fail
        exact ⟨⟨k + 1, r3, bs3, lg3, by go_num, by omega, HF.out⟩, by simp [intOf]; omega⟩
      · have hkl : k = l.length := by omega
        have HF := Lib.hid (show WPost p r fb bs false w (okRow okReq l) (eRow eReq l) (1 + 300 * 520) (.returned (.tuple #[])) wr from by
          refine ⟨rfl, r2, bs2, lg2, HD2.out.conv ?_ ?_ (by omega)⟩
          · unfold okRow; rw [hkl, List.take_length]
          · unfold eRow; rw [hkl, List.take_length])
        clear hkl
        go_wp2_with fail
        exact bodyPost_end (results_none rfl _ _ _) rfl HF.out
set_option maxHeartbeats 1000000 in
set_option maxRecDepth 100000 in
theorem rowMet_wr {W w : World} {p fb t : Nat} {r : Option Nat} {ty : TypeId} {cs : Array Value} {bs : List UInt8} {lg : Bool} {N : Nat} (h : WPre W w p r fb t ty cs bs lg N) (hN : N ≤ 90000000) (o : Nat) (R : Row Mem.Met) (hz : cs[o]? = some R.v) (hR : MetsOk W R) (hl : R.l.length ≤ 300) :
    Calls Try.prog 52 #[.pointer (some ⟨fb, 0, none⟩), .pointer (some ⟨t, o, none⟩), .func (.func 53) #[] #[]] w (WPost p r fb bs lg w (okRow okMet R.l) (eRow eMet R.l) (1 + 300 * 272)) := by
  obtain ⟨v, l⟩ := R
  obtain ⟨hS, _, hWf⟩ := hR
  simp only at hS hWf hl hz ⊢
  obtain ⟨A, c, rfl, hc, _⟩ := id hS
  have H0 := Lib.hid h
  have c0 := h.fld.cell 0
  have c1 := h.fld.cell 1
  have c2 := h.fld.cell 2
  have f2 := h.fld.frozen 2
  have co := (h.tk.cell o).trans hz
  have hwr : IntKind.u64.wrap (l.length : Int) = (l.length : Int) := by unfold IntKind.wrap; simp [IntKind.signed, IntKind.bits]; omega
  have HC := Lib.hid (fun (lg' : Bool) (hlg : lg' = true ↔ lg = true ∨ ¬ (l.length < 256 ∧ ∀ x ∈ l.take 0, okMet x)) => (wput_ok l.length 1 (by omega) (.inl rfl) (w.setCell ⟨fb, 2, none⟩ (.bool lg')).drew (wt_drew (wt_mark h (.bool lg'))) (by have := h.len; omega)).mono (R' := fun e w' => e = .returned (.tuple #[]) ∧ WPost p r fb bs lg w (l.length < 256 ∧ ∀ x ∈ l.take 0, okMet x) (putL l.length 1 ++ (l.take 0).flatMap eMet) 1 e w') (fun e w' ⟨h1, h2⟩ => ⟨h1, h1 ▸ wd_mark h lg' (out := putL l.length 1) (o2 := (putL l.length 1 ++ (l.take 0).flatMap eMet)) (wdone_drew h2) hlg (fun hk => by simp) (by rw [putL_len]; omega)⟩))
  have hd0 : ∀ u, (w.setCell ⟨fb, 2, none⟩ u).cell? ⟨fb, 0, none⟩ = some (.pointer (some ⟨p, 0, none⟩)) := fun u => by
    have := (h.fld.set 2 u).cell 0
    simpa using this
  have hdo : ∀ u, (w.setCell ⟨fb, 2, none⟩ u).cell? ⟨t, o, none⟩ = some (.slice A l.length c) := fun u => ((h.tk.far (p := ⟨fb, 2, none⟩) h.tf u).cell o).trans hz
  have HN : Hid ((l.length < 256 ∧ ∀ x ∈ l.take 0, okMet x) ↔ l.length ≤ 255) := Lib.hid ⟨fun hh => by have := hh.1; omega, fun hh => ⟨by omega, fun x hx => by simp at hx⟩⟩
  have HD := Lib.hid (And.intro hd0 hdo)
  have HZ := Lib.hid hz
  have HS := Lib.hid hS
  have HW := Lib.hid hWf
  clear h hz hd0 hdo hS hWf
  cases lg with
  | true =>
    have C := Lib.hid (HC.out true (by simp))
    have y0 : (w.setCell ⟨fb, 2, none⟩ (.bool true)).cell? ⟨fb, 0, none⟩ = some (.pointer (some ⟨p, 0, none⟩)) := HD.out.1 _
    have yo : (w.setCell ⟨fb, 2, none⟩ (.bool true)).cell? ⟨t, o, none⟩ = some (.slice A l.length c) := HD.out.2 _
    clear HC HN
    go_enter Try.func52, Try.ntmps52
    go_wp2_with fail
    have S0 : (w.setCell ⟨fb, 2, none⟩ (.bool true)).drew.cell? ⟨fb, 0, none⟩ = some (.pointer (some ⟨p, 0, none⟩)) ∧ (w.setCell ⟨fb, 2, none⟩ (.bool true)).drew.cell? ⟨t, o, none⟩ = some (.slice A l.length c) := ⟨y0, yo⟩
    clear c0 c1 c2 f2 co y0 yo
    go_region_held3 (fun w' => w'.cell? ⟨fb, 0, none⟩ = some (.pointer (some ⟨p, 0, none⟩)) ∧ w'.cell? ⟨t, o, none⟩ = some (.slice A l.length c))
      (first | (with_reducible exact S0) | (with_reducible exact S5))
      ((go_at_call 16; refine C.out.mono ?_; rintro e w1 ⟨rfl, hPo⟩; obtain ⟨-, r1, bs1, lg1, D1⟩ := hPo; have HP1 := H0.out.next D1; have E1 := Lib.hid D1; clear D1; have S5 : w1.cell? ⟨fb, 0, none⟩ = some (.pointer (some ⟨p, 0, none⟩)) ∧ w1.cell? ⟨t, o, none⟩ = some (.slice A l.length c) := ⟨HP1.fld.cell 0, (HP1.tk.cell o).trans HZ.out⟩; clear HP1))
    have z1 := S5.2
    clear S0 S5 hwr
    go_wp2_with fail
    go_loopw [42] (fun i wr => ∃ (k : Nat) (r2 : Option Nat) (bs2 : List UInt8) (lg2 : Bool), i = .int .i64 k ∧ k ≤ l.length ∧ WD p r fb bs true w (l.length < 256 ∧ ∀ x ∈ l.take k, okMet x) (putL l.length 1 ++ (l.take k).flatMap eMet) (1 + k * 272) r2 bs2 lg2 wr) (fun i wr => l.length - (intOf i).toNat)
    case atStart => exact ⟨0, r1, bs1, lg1, rfl, Nat.zero_le _, by simpa using E1.out⟩
    case round =>
      obtain ⟨k, r2, bs2, lg2, rfl, hk, hD⟩ := hrel
      have HD2 := Lib.hid hD
      have HP := Lib.hid (H0.out.next hD)
      clear hD
      by_cases hlt : k < l.length
      · have hk3 : k ≤ 300 := by omega
        obtain ⟨b, o1, rfl, hbl, hadd, hcell⟩ := Sl.row' (s := 3) (f := Mem.Met.cells) (fun _ => rfl) (by omega) (HS.out.below HP.out.bl) k hlt
        have hto := (HP.out.tk.cell o).trans HZ.out
        have a0 : wr.cell? ⟨b, o1 + k * 3, none⟩ = some (.int .i64 (l[k]).kind) := hcell 0 _ rfl
        have a1 : wr.cell? ⟨b, o1 + k * 3 + 1, none⟩ = some (.string (l[k]).name) := hcell 1 _ rfl
        have a2 : wr.cell? ⟨b, o1 + k * 3 + 2, none⟩ = some (.int .i64 (l[k]).target) := hcell 2 _ rfl
        have H2 := Lib.hid (HP.out.fresh 81 (Mem.Met.cells l[k]).toArray)
        have hx2 := Lib.hid (HW.out _ (List.getElem_mem hlt))
        have HE := Lib.hid (fun (r3 : Option Nat) (bs3 : List UInt8) (lg3 : Bool) (w3 : World) (d : WD p r2 fb bs2 lg2 (wr.alloc (.cells (Mem.Met.cells l[k]).toArray 81)) (okMet l[k]) (eMet l[k]) 272 r3 bs3 lg3 w3) => row_snoc hlt 1 rfl HD2.out (d.sub (below_al _ _)))
        clear hcell
        generalize l[k] = x at a0 a1 a2 hx2 H2 HE
        clear HD2
        go_wp2_with fail
        refine (metric_wr H2.out (by omega) 0 x (fun i hi => by rw [Nat.zero_add]; simp) hx2.out).mono ?_
        rintro e w3 ⟨rfl, r3, bs3, lg3, D3⟩
        have HF := Lib.hid (HE.out _ _ _ _ D3)
        clear D3
        go_wp2_with fail
        exact ⟨⟨k + 1, r3, bs3, lg3, by go_num, by omega, HF.out⟩, by simp [intOf]; omega⟩
      · have hkl : k = l.length := by omega
        have HF := Lib.hid (show WPost p r fb bs true w (okRow okMet l) (eRow eMet l) (1 + 300 * 272) (.returned (.tuple #[])) wr from by
          refine ⟨rfl, r2, bs2, lg2, HD2.out.conv ?_ ?_ (by omega)⟩
          · unfold okRow; rw [hkl, List.take_length]
          · unfold eRow; rw [hkl, List.take_length])
        clear hkl
        go_wp2_with fail
        exact bodyPost_end (results_none rfl _ _ _) rfl HF.out
  | false =>
    have C := Lib.hid (HC.out (decide ((255 : Int) < ((l.length : Nat) : Int))) (by simp only [decide_eq_true_eq, Bool.false_eq_true, false_or]; rw [HN.out]; omega))
    have y0 : (w.setCell ⟨fb, 2, none⟩ (.bool (decide ((255 : Int) < ((l.length : Nat) : Int))))).cell? ⟨fb, 0, none⟩ = some (.pointer (some ⟨p, 0, none⟩)) := HD.out.1 _
    have yo : (w.setCell ⟨fb, 2, none⟩ (.bool (decide ((255 : Int) < ((l.length : Nat) : Int))))).cell? ⟨t, o, none⟩ = some (.slice A l.length c) := HD.out.2 _
    clear HC HN
    go_enter Try.func52, Try.ntmps52
    go_wp2_with fail
    have S0 : (w.setCell ⟨fb, 2, none⟩ (.bool (decide ((255 : Int) < ((l.length : Nat) : Int))))).drew.cell? ⟨fb, 0, none⟩ = some (.pointer (some ⟨p, 0, none⟩)) ∧ (w.setCell ⟨fb, 2, none⟩ (.bool (decide ((255 : Int) < ((l.length : Nat) : Int))))).drew.cell? ⟨t, o, none⟩ = some (.slice A l.length c) := ⟨y0, yo⟩
    clear c0 c1 c2 f2 co y0 yo
    go_region_held3 (fun w' => w'.cell? ⟨fb, 0, none⟩ = some (.pointer (some ⟨p, 0, none⟩)) ∧ w'.cell? ⟨t, o, none⟩ = some (.slice A l.length c))
      (first | (with_reducible exact S0) | (with_reducible exact S5))
      ((go_at_call 16; refine C.out.mono ?_; rintro e w1 ⟨rfl, hPo⟩; obtain ⟨-, r1, bs1, lg1, D1⟩ := hPo; have HP1 := H0.out.next D1; have E1 := Lib.hid D1; clear D1; have S5 : w1.cell? ⟨fb, 0, none⟩ = some (.pointer (some ⟨p, 0, none⟩)) ∧ w1.cell? ⟨t, o, none⟩ = some (.slice A l.length c) := ⟨HP1.fld.cell 0, (HP1.tk.cell o).trans HZ.out⟩; clear HP1))
    have z1 := S5.2
    clear S0 S5 hwr
    go_wp2_with fail
    go_loopw [42] (fun i wr => ∃ (k : Nat) (r2 : Option Nat) (bs2 : List UInt8) (lg2 : Bool), i = .int .i64 k ∧ k ≤ l.length ∧ WD p r fb bs false w (l.length < 256 ∧ ∀ x ∈ l.take k, okMet x) (putL l.length 1 ++ (l.take k).flatMap eMet) (1 + k * 272) r2 bs2 lg2 wr) (fun i wr => l.length - (intOf i).toNat)
    case atStart => exact ⟨0, r1, bs1, lg1, rfl, Nat.zero_le _, by simpa using E1.out⟩
    case round =>
      obtain ⟨k, r2, bs2, lg2, rfl, hk, hD⟩ := hrel
      have HD2 := Lib.hid hD
      have HP := Lib.hid (H0.out.next hD)
      clear hD
      by_cases hlt : k < l.length
      · have hk3 : k ≤ 300 := by omega
        obtain ⟨b, o1, rfl, hbl, hadd, hcell⟩ := Sl.row' (s := 3) (f := Mem.Met.cells) (fun _ => rfl) (by omega) (HS.out.below HP.out.bl) k hlt
        have hto := (HP.out.tk.cell o).trans HZ.out
        have a0 : wr.cell? ⟨b, o1 + k * 3, none⟩ = some (.int .i64 (l[k]).kind) := hcell 0 _ rfl
        have a1 : wr.cell? ⟨b, o1 + k * 3 + 1, none⟩ = some (.string (l[k]).name) := hcell 1 _ rfl
        have a2 : wr.cell? ⟨b, o1 + k * 3 + 2, none⟩ = some (.int .i64 (l[k]).target) := hcell 2 _ rfl
        have H2 := Lib.hid (HP.out.fresh 81 (Mem.Met.cells l[k]).toArray)
        have hx2 := Lib.hid (HW.out _ (List.getElem_mem hlt))
        have HE := Lib.hid (fun (r3 : Option Nat) (bs3 : List UInt8) (lg3 : Bool) (w3 : World) (d : WD p r2 fb bs2 lg2 (wr.alloc (.cells (Mem.Met.cells l[k]).toArray 81)) (okMet l[k]) (eMet l[k]) 272 r3 bs3 lg3 w3) => row_snoc hlt 1 rfl HD2.out (d.sub (below_al _ _)))
        clear hcell
        generalize l[k] = x at a0 a1 a2 hx2 H2 HE
        clear HD2
        go_wp2_with fail
        refine (metric_wr H2.out (by omega) 0 x (fun i hi => by rw [Nat.zero_add]; simp) hx2.out).mono ?_
        rintro e w3 ⟨rfl, r3, bs3, lg3, D3⟩
        have HF := Lib.hid (HE.out _ _ _ _ D3)
        clear D3
        go_wp2_with fail
        exact ⟨⟨k + 1, r3, bs3, lg3, by go_num, by omega, HF.out⟩, by simp [intOf]; omega⟩
      · have hkl : k = l.length := by omega
        have HF := Lib.hid (show WPost p r fb bs false w (okRow okMet l) (eRow eMet l) (1 + 300 * 272) (.returned (.tuple #[])) wr from by
          refine ⟨rfl, r2, bs2, lg2, HD2.out.conv ?_ ?_ (by omega)⟩
          · unfold okRow; rw [hkl, List.take_length]
          · unfold eRow; rw [hkl, List.take_length])
        clear hkl
        go_wp2_with fail
        exact bodyPost_end (results_none rfl _ _ _) rfl HF.out
set_option maxHeartbeats 1000000 in
set_option maxRecDepth 100000 in
theorem rowPol_wr {W w : World} {p fb t : Nat} {r : Option Nat} {ty : TypeId} {cs : Array Value} {bs : List UInt8} {lg : Bool} {N : Nat} (h : WPre W w p r fb t ty cs bs lg N) (hN : N ≤ 90000000) (o : Nat) (R : Row Pol) (hz : cs[o]? = some R.v) (hR : PolsOk W R) (hl : R.l.length ≤ 300) :
    Calls Try.prog 61 #[.pointer (some ⟨fb, 0, none⟩), .pointer (some ⟨t, o, none⟩), .func (.func 62) #[] #[]] w (WPost p r fb bs lg w (okRow okPol R.l) (eRow ePol R.l) (1 + 300 * 17)) := by
  obtain ⟨v, l⟩ := R
  obtain ⟨hS, _, hWf⟩ := hR
  simp only at hS hWf hl hz ⊢
  obtain ⟨A, c, rfl, hc, _⟩ := id hS
  have H0 := Lib.hid h
  have c0 := h.fld.cell 0
  have c1 := h.fld.cell 1
  have c2 := h.fld.cell 2
  have f2 := h.fld.frozen 2
  have co := (h.tk.cell o).trans hz
  have hwr : IntKind.u64.wrap (l.length : Int) = (l.length : Int) := by unfold IntKind.wrap; simp [IntKind.signed, IntKind.bits]; omega
  have HC := Lib.hid (fun (lg' : Bool) (hlg : lg' = true ↔ lg = true ∨ ¬ (l.length < 256 ∧ ∀ x ∈ l.take 0, okPol x)) => (wput_ok l.length 1 (by omega) (.inl rfl) (w.setCell ⟨fb, 2, none⟩ (.bool lg')).drew (wt_drew (wt_mark h (.bool lg'))) (by have := h.len; omega)).mono (R' := fun e w' => e = .returned (.tuple #[]) ∧ WPost p r fb bs lg w (l.length < 256 ∧ ∀ x ∈ l.take 0, okPol x) (putL l.length 1 ++ (l.take 0).flatMap ePol) 1 e w') (fun e w' ⟨h1, h2⟩ => ⟨h1, h1 ▸ wd_mark h lg' (out := putL l.length 1) (o2 := (putL l.length 1 ++ (l.take 0).flatMap ePol)) (wdone_drew h2) hlg (fun hk => by simp) (by rw [putL_len]; omega)⟩))
  have hd0 : ∀ u, (w.setCell ⟨fb, 2, none⟩ u).cell? ⟨fb, 0, none⟩ = some (.pointer (some ⟨p, 0, none⟩)) := fun u => by
    have := (h.fld.set 2 u).cell 0
    simpa using this
  have hdo : ∀ u, (w.setCell ⟨fb, 2, none⟩ u).cell? ⟨t, o, none⟩ = some (.slice A l.length c) := fun u => ((h.tk.far (p := ⟨fb, 2, none⟩) h.tf u).cell o).trans hz
  have HN : Hid ((l.length < 256 ∧ ∀ x ∈ l.take 0, okPol x) ↔ l.length ≤ 255) := Lib.hid ⟨fun hh => by have := hh.1; omega, fun hh => ⟨by omega, fun x hx => by simp at hx⟩⟩
  have HD := Lib.hid (And.intro hd0 hdo)
  have HZ := Lib.hid hz
  have HS := Lib.hid hS
  have HW := Lib.hid hWf
  clear h hz hd0 hdo hS hWf
  cases lg with
  | true =>
    have C := Lib.hid (HC.out true (by simp))
    have y0 : (w.setCell ⟨fb, 2, none⟩ (.bool true)).cell? ⟨fb, 0, none⟩ = some (.pointer (some ⟨p, 0, none⟩)) := HD.out.1 _
    have yo : (w.setCell ⟨fb, 2, none⟩ (.bool true)).cell? ⟨t, o, none⟩ = some (.slice A l.length c) := HD.out.2 _
    clear HC HN
    go_enter Try.func61, Try.ntmps61
    go_wp2_with fail
    have S0 : (w.setCell ⟨fb, 2, none⟩ (.bool true)).drew.cell? ⟨fb, 0, none⟩ = some (.pointer (some ⟨p, 0, none⟩)) ∧ (w.setCell ⟨fb, 2, none⟩ (.bool true)).drew.cell? ⟨t, o, none⟩ = some (.slice A l.length c) := ⟨y0, yo⟩
    clear c0 c1 c2 f2 co y0 yo
    go_region_held3 (fun w' => w'.cell? ⟨fb, 0, none⟩ = some (.pointer (some ⟨p, 0, none⟩)) ∧ w'.cell? ⟨t, o, none⟩ = some (.slice A l.length c))
      (first | (with_reducible exact S0) | (with_reducible exact S5))
      ((go_at_call 16; refine C.out.mono ?_; rintro e w1 ⟨rfl, hPo⟩; obtain ⟨-, r1, bs1, lg1, D1⟩ := hPo; have HP1 := H0.out.next D1; have E1 := Lib.hid D1; clear D1; have S5 : w1.cell? ⟨fb, 0, none⟩ = some (.pointer (some ⟨p, 0, none⟩)) ∧ w1.cell? ⟨t, o, none⟩ = some (.slice A l.length c) := ⟨HP1.fld.cell 0, (HP1.tk.cell o).trans HZ.out⟩; clear HP1))
    have z1 := S5.2
    clear S0 S5 hwr
    go_wp2_with fail
    go_loopw [42] (fun i wr => ∃ (k : Nat) (r2 : Option Nat) (bs2 : List UInt8) (lg2 : Bool), i = .int .i64 k ∧ k ≤ l.length ∧ WD p r fb bs true w (l.length < 256 ∧ ∀ x ∈ l.take k, okPol x) (putL l.length 1 ++ (l.take k).flatMap ePol) (1 + k * 17) r2 bs2 lg2 wr) (fun i wr => l.length - (intOf i).toNat)
    case atStart => exact ⟨0, r1, bs1, lg1, rfl, Nat.zero_le _, by simpa using E1.out⟩
    case round =>
      obtain ⟨k, r2, bs2, lg2, rfl, hk, hD⟩ := hrel
      have HD2 := Lib.hid hD
      have HP := Lib.hid (H0.out.next hD)
      clear hD
      by_cases hlt : k < l.length
      · have hk3 : k ≤ 300 := by omega
        obtain ⟨b, o1, rfl, hbl, hadd, hcell⟩ := Sl.row' (s := 3) (f := Pol.cells) (fun _ => rfl) (by omega) (HS.out.below HP.out.bl) k hlt
        have hto := (HP.out.tk.cell o).trans HZ.out
        have a0 : wr.cell? ⟨b, o1 + k * 3, none⟩ = some (.bool (l[k]).pct) := hcell 0 _ rfl
        have a1 : wr.cell? ⟨b, o1 + k * 3 + 1, none⟩ = some (.int .i64 (l[k]).value) := hcell 1 _ rfl
        have a2 : wr.cell? ⟨b, o1 + k * 3 + 2, none⟩ = some (.int .i64 (l[k]).period) := hcell 2 _ rfl
        have H2 := Lib.hid (HP.out.fresh 110 (Pol.cells l[k]).toArray)
        have hx2 := Lib.hid (HW.out _ (List.getElem_mem hlt))
        have HE := Lib.hid (fun (r3 : Option Nat) (bs3 : List UInt8) (lg3 : Bool) (w3 : World) (d : WD p r2 fb bs2 lg2 (wr.alloc (.cells (Pol.cells l[k]).toArray 110)) (okPol l[k]) (ePol l[k]) 17 r3 bs3 lg3 w3) => row_snoc hlt 1 rfl HD2.out (d.sub (below_al _ _)))
        clear hcell
        generalize l[k] = x at a0 a1 a2 hx2 H2 HE
        clear HD2
        go_wp2_with fail
        refine (policy_wr H2.out (by omega) 0 x (fun i hi => by rw [Nat.zero_add]; simp) hx2.out).mono ?_
        rintro e w3 ⟨rfl, r3, bs3, lg3, D3⟩
        have HF := Lib.hid (HE.out _ _ _ _ D3)
        clear D3
        go_wp2_with fail
        exact ⟨⟨k + 1, r3, bs3, lg3, by go_num, by omega, HF.out⟩, by simp [intOf]; omega⟩
      · have hkl : k = l.length := by omega
        have HF := Lib.hid (show WPost p r fb bs true w (okRow okPol l) (eRow ePol l) (1 + 300 * 17) (.returned (.tuple #[])) wr from by
          refine ⟨rfl, r2, bs2, lg2, HD2.out.conv ?_ ?_ (by omega)⟩
          · unfold okRow; rw [hkl, List.take_length]
          · unfold eRow; rw [hkl, List.take_length])
        clear hkl
        go_wp2_with fail
        exact bodyPost_end (results_none rfl _ _ _) rfl HF.out
  | false =>
    have C := Lib.hid (HC.out (decide ((255 : Int) < ((l.length : Nat) : Int))) (by simp only [decide_eq_true_eq, Bool.false_eq_true, false_or]; rw [HN.out]; omega))
    have y0 : (w.setCell ⟨fb, 2, none⟩ (.bool (decide ((255 : Int) < ((l.length : Nat) : Int))))).cell? ⟨fb, 0, none⟩ = some (.pointer (some ⟨p, 0, none⟩)) := HD.out.1 _
    have yo : (w.setCell ⟨fb, 2, none⟩ (.bool (decide ((255 : Int) < ((l.length : Nat) : Int))))).cell? ⟨t, o, none⟩ = some (.slice A l.length c) := HD.out.2 _
    clear HC HN
    go_enter Try.func61, Try.ntmps61
    go_wp2_with fail
    have S0 : (w.setCell ⟨fb, 2, none⟩ (.bool (decide ((255 : Int) < ((l.length : Nat) : Int))))).drew.cell? ⟨fb, 0, none⟩ = some (.pointer (some ⟨p, 0, none⟩)) ∧ (w.setCell ⟨fb, 2, none⟩ (.bool (decide ((255 : Int) < ((l.length : Nat) : Int))))).drew.cell? ⟨t, o, none⟩ = some (.slice A l.length c) := ⟨y0, yo⟩
    clear c0 c1 c2 f2 co y0 yo
    go_region_held3 (fun w' => w'.cell? ⟨fb, 0, none⟩ = some (.pointer (some ⟨p, 0, none⟩)) ∧ w'.cell? ⟨t, o, none⟩ = some (.slice A l.length c))
      (first | (with_reducible exact S0) | (with_reducible exact S5))
      ((go_at_call 16; refine C.out.mono ?_; rintro e w1 ⟨rfl, hPo⟩; obtain ⟨-, r1, bs1, lg1, D1⟩ := hPo; have HP1 := H0.out.next D1; have E1 := Lib.hid D1; clear D1; have S5 : w1.cell? ⟨fb, 0, none⟩ = some (.pointer (some ⟨p, 0, none⟩)) ∧ w1.cell? ⟨t, o, none⟩ = some (.slice A l.length c) := ⟨HP1.fld.cell 0, (HP1.tk.cell o).trans HZ.out⟩; clear HP1))
    have z1 := S5.2
    clear S0 S5 hwr
    go_wp2_with fail
    go_loopw [42] (fun i wr => ∃ (k : Nat) (r2 : Option Nat) (bs2 : List UInt8) (lg2 : Bool), i = .int .i64 k ∧ k ≤ l.length ∧ WD p r fb bs false w (l.length < 256 ∧ ∀ x ∈ l.take k, okPol x) (putL l.length 1 ++ (l.take k).flatMap ePol) (1 + k * 17) r2 bs2 lg2 wr) (fun i wr => l.length - (intOf i).toNat)
    case atStart => exact ⟨0, r1, bs1, lg1, rfl, Nat.zero_le _, by simpa using E1.out⟩
    case round =>
      obtain ⟨k, r2, bs2, lg2, rfl, hk, hD⟩ := hrel
      have HD2 := Lib.hid hD
      have HP := Lib.hid (H0.out.next hD)
      clear hD
      by_cases hlt : k < l.length
      · have hk3 : k ≤ 300 := by omega
        obtain ⟨b, o1, rfl, hbl, hadd, hcell⟩ := Sl.row' (s := 3) (f := Pol.cells) (fun _ => rfl) (by omega) (HS.out.below HP.out.bl) k hlt
        have hto := (HP.out.tk.cell o).trans HZ.out
        have a0 : wr.cell? ⟨b, o1 + k * 3, none⟩ = some (.bool (l[k]).pct) := hcell 0 _ rfl
        have a1 : wr.cell? ⟨b, o1 + k * 3 + 1, none⟩ = some (.int .i64 (l[k]).value) := hcell 1 _ rfl
        have a2 : wr.cell? ⟨b, o1 + k * 3 + 2, none⟩ = some (.int .i64 (l[k]).period) := hcell 2 _ rfl
        have H2 := Lib.hid (HP.out.fresh 110 (Pol.cells l[k]).toArray)
        have hx2 := Lib.hid (HW.out _ (List.getElem_mem hlt))
        have HE := Lib.hid (fun (r3 : Option Nat) (bs3 : List UInt8) (lg3 : Bool) (w3 : World) (d : WD p r2 fb bs2 lg2 (wr.alloc (.cells (Pol.cells l[k]).toArray 110)) (okPol l[k]) (ePol l[k]) 17 r3 bs3 lg3 w3) => row_snoc hlt 1 rfl HD2.out (d.sub (below_al _ _)))
        clear hcell
        generalize l[k] = x at a0 a1 a2 hx2 H2 HE
        clear HD2
        go_wp2_with fail
        refine (policy_wr H2.out (by omega) 0 x (fun i hi => by rw [Nat.zero_add]; simp) hx2.out).mono ?_
        rintro e w3 ⟨rfl, r3, bs3, lg3, D3⟩
        have HF := Lib.hid (HE.out _ _ _ _ D3)
        clear D3
        go_wp2_with fail
        exact ⟨⟨k + 1, r3, bs3, lg3, by go_num, by omega, HF.out⟩, by simp [intOf]; omega⟩
      · have hkl : k = l.length := by omega
        have HF := Lib.hid (show WPost p r fb bs false w (okRow okPol l) (eRow ePol l) (1 + 300 * 17) (.returned (.tuple #[])) wr from by
          refine ⟨rfl, r2, bs2, lg2, HD2.out.conv ?_ ?_ (by omega)⟩
          · unfold okRow; rw [hkl, List.take_length]
          · unfold eRow; rw [hkl, List.take_length])
        clear hkl
        go_wp2_with fail
        exact bodyPost_end (results_none rfl _ _ _) rfl HF.out
set_option maxHeartbeats 1000000 in
set_option maxRecDepth 100000 in
theorem rowDone_wr {W w : World} {p fb t : Nat} {r : Option Nat} {ty : TypeId} {cs : Array Value} {bs : List UInt8} {lg : Bool} {N : Nat} (h : WPre W w p r fb t ty cs bs lg N) (hN : N ≤ 90000000) (o : Nat) (R : Row Done) (hz : cs[o]? = some R.v) (hR : DonesOk W R) (hl : R.l.length ≤ 300) :
    Calls Try.prog 55 #[.pointer (some ⟨fb, 0, none⟩), .pointer (some ⟨t, o, none⟩), .func (.func 56) #[] #[]] w (WPost p r fb bs lg w (okRow okDone R.l) (eRow eDone R.l) (1 + 300 * 24)) := by
  obtain ⟨v, l⟩ := R
  obtain ⟨hS, _, hWf⟩ := hR
  simp only at hS hWf hl hz ⊢
  obtain ⟨A, c, rfl, hc, _⟩ := id hS
  have H0 := Lib.hid h
  have c0 := h.fld.cell 0
  have c1 := h.fld.cell 1
  have c2 := h.fld.cell 2
  have f2 := h.fld.frozen 2
  have co := (h.tk.cell o).trans hz
  have hwr : IntKind.u64.wrap (l.length : Int) = (l.length : Int) := by unfold IntKind.wrap; simp [IntKind.signed, IntKind.bits]; omega
  have HC := Lib.hid (fun (lg' : Bool) (hlg : lg' = true ↔ lg = true ∨ ¬ (l.length < 256 ∧ ∀ x ∈ l.take 0, okDone x)) => (wput_ok l.length 1 (by omega) (.inl rfl) (w.setCell ⟨fb, 2, none⟩ (.bool lg')).drew (wt_drew (wt_mark h (.bool lg'))) (by have := h.len; omega)).mono (R' := fun e w' => e = .returned (.tuple #[]) ∧ WPost p r fb bs lg w (l.length < 256 ∧ ∀ x ∈ l.take 0, okDone x) (putL l.length 1 ++ (l.take 0).flatMap eDone) 1 e w') (fun e w' ⟨h1, h2⟩ => ⟨h1, h1 ▸ wd_mark h lg' (out := putL l.length 1) (o2 := (putL l.length 1 ++ (l.take 0).flatMap eDone)) (wdone_drew h2) hlg (fun hk => by simp) (by rw [putL_len]; omega)⟩))
  have hd0 : ∀ u, (w.setCell ⟨fb, 2, none⟩ u).cell? ⟨fb, 0, none⟩ = some (.pointer (some ⟨p, 0, none⟩)) := fun u => by
    have := (h.fld.set 2 u).cell 0
    simpa using this
  have hdo : ∀ u, (w.setCell ⟨fb, 2, none⟩ u).cell? ⟨t, o, none⟩ = some (.slice A l.length c) := fun u => ((h.tk.far (p := ⟨fb, 2, none⟩) h.tf u).cell o).trans hz
  have HN : Hid ((l.length < 256 ∧ ∀ x ∈ l.take 0, okDone x) ↔ l.length ≤ 255) := Lib.hid ⟨fun hh => by have := hh.1; omega, fun hh => ⟨by omega, fun x hx => by simp at hx⟩⟩
  have HD := Lib.hid (And.intro hd0 hdo)
  have HZ := Lib.hid hz
  have HS := Lib.hid hS
  have HW := Lib.hid hWf
  clear h hz hd0 hdo hS hWf
  cases lg with
  | true =>
    have C := Lib.hid (HC.out true (by simp))
    have y0 : (w.setCell ⟨fb, 2, none⟩ (.bool true)).cell? ⟨fb, 0, none⟩ = some (.pointer (some ⟨p, 0, none⟩)) := HD.out.1 _
    have yo : (w.setCell ⟨fb, 2, none⟩ (.bool true)).cell? ⟨t, o, none⟩ = some (.slice A l.length c) := HD.out.2 _
    clear HC HN
    go_enter Try.func55, Try.ntmps55
    go_wp2_with fail
    have S0 : (w.setCell ⟨fb, 2, none⟩ (.bool true)).drew.cell? ⟨fb, 0, none⟩ = some (.pointer (some ⟨p, 0, none⟩)) ∧ (w.setCell ⟨fb, 2, none⟩ (.bool true)).drew.cell? ⟨t, o, none⟩ = some (.slice A l.length c) := ⟨y0, yo⟩
    clear c0 c1 c2 f2 co y0 yo
    go_region_held3 (fun w' => w'.cell? ⟨fb, 0, none⟩ = some (.pointer (some ⟨p, 0, none⟩)) ∧ w'.cell? ⟨t, o, none⟩ = some (.slice A l.length c))
      (first | (with_reducible exact S0) | (with_reducible exact S5))
      ((go_at_call 16; refine C.out.mono ?_; rintro e w1 ⟨rfl, hPo⟩; obtain ⟨-, r1, bs1, lg1, D1⟩ := hPo; have HP1 := H0.out.next D1; have E1 := Lib.hid D1; clear D1; have S5 : w1.cell? ⟨fb, 0, none⟩ = some (.pointer (some ⟨p, 0, none⟩)) ∧ w1.cell? ⟨t, o, none⟩ = some (.slice A l.length c) := ⟨HP1.fld.cell 0, (HP1.tk.cell o).trans HZ.out⟩; clear HP1))
    have z1 := S5.2
    clear S0 S5 hwr
    go_wp2_with fail
    go_loopw [42] (fun i wr => ∃ (k : Nat) (r2 : Option Nat) (bs2 : List UInt8) (lg2 : Bool), i = .int .i64 k ∧ k ≤ l.length ∧ WD p r fb bs true w (l.length < 256 ∧ ∀ x ∈ l.take k, okDone x) (putL l.length 1 ++ (l.take k).flatMap eDone) (1 + k * 24) r2 bs2 lg2 wr) (fun i wr => l.length - (intOf i).toNat)
    case atStart => exact ⟨0, r1, bs1, lg1, rfl, Nat.zero_le _, by simpa using E1.out⟩
    case round =>
      obtain ⟨k, r2, bs2, lg2, rfl, hk, hD⟩ := hrel
      have HD2 := Lib.hid hD
      have HP := Lib.hid (H0.out.next hD)
      clear hD
      by_cases hlt : k < l.length
      · have hk3 : k ≤ 300 := by omega
        obtain ⟨b, o1, rfl, hbl, hadd, hcell⟩ := Sl.row' (s := 3) (f := Done.cells) (fun _ => rfl) (by omega) (HS.out.below HP.out.bl) k hlt
        have hto := (HP.out.tk.cell o).trans HZ.out
        have a0 : wr.cell? ⟨b, o1 + k * 3, none⟩ = some (.int .i64 (l[k]).at') := hcell 0 _ rfl
        have a1 : wr.cell? ⟨b, o1 + k * 3 + 1, none⟩ = some (.int .i64 (l[k]).from') := hcell 1 _ rfl
        have a2 : wr.cell? ⟨b, o1 + k * 3 + 2, none⟩ = some (.int .i64 (l[k]).to') := hcell 2 _ rfl
        have H2 := Lib.hid (HP.out.fresh 91 (Done.cells l[k]).toArray)
        have hx2 := Lib.hid (HW.out _ (List.getElem_mem hlt))
        have HE := Lib.hid (fun (r3 : Option Nat) (bs3 : List UInt8) (lg3 : Bool) (w3 : World) (d : WD p r2 fb bs2 lg2 (wr.alloc (.cells (Done.cells l[k]).toArray 91)) (okDone l[k]) (eDone l[k]) 24 r3 bs3 lg3 w3) => row_snoc hlt 1 rfl HD2.out (d.sub (below_al _ _)))
        clear hcell
        generalize l[k] = x at a0 a1 a2 hx2 H2 HE
        clear HD2
        go_wp2_with fail
        refine (scaled_wr H2.out (by omega) 0 x (fun i hi => by rw [Nat.zero_add]; simp) hx2.out).mono ?_
        rintro e w3 ⟨rfl, r3, bs3, lg3, D3⟩
        have HF := Lib.hid (HE.out _ _ _ _ D3)
        clear D3
        go_wp2_with fail
        exact ⟨⟨k + 1, r3, bs3, lg3, by go_num, by omega, HF.out⟩, by simp [intOf]; omega⟩
      · have hkl : k = l.length := by omega
        have HF := Lib.hid (show WPost p r fb bs true w (okRow okDone l) (eRow eDone l) (1 + 300 * 24) (.returned (.tuple #[])) wr from by
          refine ⟨rfl, r2, bs2, lg2, HD2.out.conv ?_ ?_ (by omega)⟩
          · unfold okRow; rw [hkl, List.take_length]
          · unfold eRow; rw [hkl, List.take_length])
        clear hkl
        go_wp2_with fail
        exact bodyPost_end (results_none rfl _ _ _) rfl HF.out
  | false =>
    have C := Lib.hid (HC.out (decide ((255 : Int) < ((l.length : Nat) : Int))) (by simp only [decide_eq_true_eq, Bool.false_eq_true, false_or]; rw [HN.out]; omega))
    have y0 : (w.setCell ⟨fb, 2, none⟩ (.bool (decide ((255 : Int) < ((l.length : Nat) : Int))))).cell? ⟨fb, 0, none⟩ = some (.pointer (some ⟨p, 0, none⟩)) := HD.out.1 _
    have yo : (w.setCell ⟨fb, 2, none⟩ (.bool (decide ((255 : Int) < ((l.length : Nat) : Int))))).cell? ⟨t, o, none⟩ = some (.slice A l.length c) := HD.out.2 _
    clear HC HN
    go_enter Try.func55, Try.ntmps55
    go_wp2_with fail
    have S0 : (w.setCell ⟨fb, 2, none⟩ (.bool (decide ((255 : Int) < ((l.length : Nat) : Int))))).drew.cell? ⟨fb, 0, none⟩ = some (.pointer (some ⟨p, 0, none⟩)) ∧ (w.setCell ⟨fb, 2, none⟩ (.bool (decide ((255 : Int) < ((l.length : Nat) : Int))))).drew.cell? ⟨t, o, none⟩ = some (.slice A l.length c) := ⟨y0, yo⟩
    clear c0 c1 c2 f2 co y0 yo
    go_region_held3 (fun w' => w'.cell? ⟨fb, 0, none⟩ = some (.pointer (some ⟨p, 0, none⟩)) ∧ w'.cell? ⟨t, o, none⟩ = some (.slice A l.length c))
      (first | (with_reducible exact S0) | (with_reducible exact S5))
      ((go_at_call 16; refine C.out.mono ?_; rintro e w1 ⟨rfl, hPo⟩; obtain ⟨-, r1, bs1, lg1, D1⟩ := hPo; have HP1 := H0.out.next D1; have E1 := Lib.hid D1; clear D1; have S5 : w1.cell? ⟨fb, 0, none⟩ = some (.pointer (some ⟨p, 0, none⟩)) ∧ w1.cell? ⟨t, o, none⟩ = some (.slice A l.length c) := ⟨HP1.fld.cell 0, (HP1.tk.cell o).trans HZ.out⟩; clear HP1))
    have z1 := S5.2
    clear S0 S5 hwr
    go_wp2_with fail
    go_loopw [42] (fun i wr => ∃ (k : Nat) (r2 : Option Nat) (bs2 : List UInt8) (lg2 : Bool), i = .int .i64 k ∧ k ≤ l.length ∧ WD p r fb bs false w (l.length < 256 ∧ ∀ x ∈ l.take k, okDone x) (putL l.length 1 ++ (l.take k).flatMap eDone) (1 + k * 24) r2 bs2 lg2 wr) (fun i wr => l.length - (intOf i).toNat)
    case atStart => exact ⟨0, r1, bs1, lg1, rfl, Nat.zero_le _, by simpa using E1.out⟩
    case round =>
      obtain ⟨k, r2, bs2, lg2, rfl, hk, hD⟩ := hrel
      have HD2 := Lib.hid hD
      have HP := Lib.hid (H0.out.next hD)
      clear hD
      by_cases hlt : k < l.length
      · have hk3 : k ≤ 300 := by omega
        obtain ⟨b, o1, rfl, hbl, hadd, hcell⟩ := Sl.row' (s := 3) (f := Done.cells) (fun _ => rfl) (by omega) (HS.out.below HP.out.bl) k hlt
        have hto := (HP.out.tk.cell o).trans HZ.out
        have a0 : wr.cell? ⟨b, o1 + k * 3, none⟩ = some (.int .i64 (l[k]).at') := hcell 0 _ rfl
        have a1 : wr.cell? ⟨b, o1 + k * 3 + 1, none⟩ = some (.int .i64 (l[k]).from') := hcell 1 _ rfl
        have a2 : wr.cell? ⟨b, o1 + k * 3 + 2, none⟩ = some (.int .i64 (l[k]).to') := hcell 2 _ rfl
        have H2 := Lib.hid (HP.out.fresh 91 (Done.cells l[k]).toArray)
        have hx2 := Lib.hid (HW.out _ (List.getElem_mem hlt))
        have HE := Lib.hid (fun (r3 : Option Nat) (bs3 : List UInt8) (lg3 : Bool) (w3 : World) (d : WD p r2 fb bs2 lg2 (wr.alloc (.cells (Done.cells l[k]).toArray 91)) (okDone l[k]) (eDone l[k]) 24 r3 bs3 lg3 w3) => row_snoc hlt 1 rfl HD2.out (d.sub (below_al _ _)))
        clear hcell
        generalize l[k] = x at a0 a1 a2 hx2 H2 HE
        clear HD2
        go_wp2_with fail
        refine (scaled_wr H2.out (by omega) 0 x (fun i hi => by rw [Nat.zero_add]; simp) hx2.out).mono ?_
        rintro e w3 ⟨rfl, r3, bs3, lg3, D3⟩
        have HF := Lib.hid (HE.out _ _ _ _ D3)
        clear D3
        go_wp2_with fail
        exact ⟨⟨k + 1, r3, bs3, lg3, by go_num, by omega, HF.out⟩, by simp [intOf]; omega⟩
      · have hkl : k = l.length := by omega
        have HF := Lib.hid (show WPost p r fb bs false w (okRow okDone l) (eRow eDone l) (1 + 300 * 24) (.returned (.tuple #[])) wr from by
          refine ⟨rfl, r2, bs2, lg2, HD2.out.conv ?_ ?_ (by omega)⟩
          · unfold okRow; rw [hkl, List.take_length]
          · unfold eRow; rw [hkl, List.take_length])
        clear hkl
        go_wp2_with fail
        exact bodyPost_end (results_none rfl _ _ _) rfl HF.out
end Go.Proofs.Ythdjfcfbmmmmcaa
