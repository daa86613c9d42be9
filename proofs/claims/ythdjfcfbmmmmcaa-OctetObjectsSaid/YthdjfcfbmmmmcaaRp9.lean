/-
  What was read is an object: its parts in Lean's own words. (printed by wip/gen_rp9.py)
-/
import Derived.Test.YthdjfcfbmmmmcaaRp8
import Derived.Test.YthdjfcfbmmmmcaaShortHp
import Derived.Test.YthdjfcfbmmmmcaaSame
import Derived.Test.YthdjfcfbmmmmcaaShort2
namespace Go.Proofs.Ythdjfcfbmmmmcaa
open Go.RowKit Go.Proofs.Mem
set_option linter.unusedVariables false
set_option linter.unusedSimpArgs false
theorem take_cons' {l : List Value} {o : Nat} {x : Value} (n : Nat) (h : l[o]? = some x) : (l.drop o).take (n + 1) = x :: (l.drop (o + 1)).take n := by
  obtain ⟨h1, h2⟩ := List.getElem?_eq_some_iff.1 h
  rw [List.drop_eq_getElem_cons h1, List.take_succ_cons, h2]
theorem fr_split {cs L : Array Value} {o k : Nat} (h : Fr cs L o k) : L.toList = cs.toList.take o ++ ((L.toList.drop o).take k ++ cs.toList.drop (o + k)) := by
  have e1 : L.toList.take o = cs.toList.take o := by
    apply List.ext_getElem?
    intro i
    rw [List.getElem?_take, List.getElem?_take]
    split
    · have := h.out i (.inl (by omega))
      simpa using this
    · rfl
  have e2 : L.toList.drop (o + k) = cs.toList.drop (o + k) := by
    apply List.ext_getElem?
    intro i
    rw [List.getElem?_drop, List.getElem?_drop]
    have := h.out (o + k + i) (.inr (by omega))
    simpa using this
  rw [← e1, ← e2, ← List.drop_drop, List.take_append_drop, List.take_append_drop]
theorem wfi_of {z : Int} (h : i64ok z) : wfi .i64 z := by
  unfold i64ok at h
  simp only [wfi, Lit.wf, IntKind.min, IntKind.max, IntKind.signed, IntKind.bits]
  simp
  omega
theorem u64_wf {v : Nat} (h : v < 256 ^ 8) : wfi .u64 (v : Int) := by
  simp only [wfi, Lit.wf, IntKind.min, IntKind.max, IntKind.signed, IntKind.bits]
  simp
  omega
theorem wfs_of {s : ByteArray} (h : s256 s) : wfs s := by unfold s256 at h; unfold wfs reachBytes; omega
theorem s255_of {s : ByteArray} (h : s256 s) : s255 s := by unfold s256 at h; unfold s255; omega
section
variable {B : Nat} {w : World} {cs : Array Value} {o : Nat}
theorem labs_at {l : List Lab} (h : RowAt B 106 2 Lab.cells w cs o l) (hl : okLabs l) : ∃ v, cs[o]? = some v ∧ LabsOk w ⟨v, l⟩ := by
  obtain ⟨v, h1, h2⟩ := h
  exact ⟨v, h1, Sl.of_own h2, by have := hl.1; show l.length * 32 ≤ reachBytes; unfold reachBytes; omega, fun x hx => ⟨wfs_of (hl.2 x hx).1, wfs_of (hl.2 x hx).2⟩⟩
theorem reqs_at {l : List Req} (h : RowAt B 108 3 Req.cells w cs o l) (hl : okReqs l) : ∃ v, cs[o]? = some v ∧ ReqsOk w ⟨v, l⟩ := by
  obtain ⟨v, h1, h2⟩ := h
  exact ⟨v, h1, Sl.of_own h2, by have := hl.1; show l.length * 40 ≤ reachBytes; unfold reachBytes; omega, fun x hx => ⟨wfs_of (hl.2 x hx).1, wfs_of (hl.2 x hx).2.1, wfi_of (hl.2 x hx).2.2⟩⟩
theorem mets_at {l : List Mem.Met} (h : RowAt B 81 3 Mem.Met.cells w cs o l) (hl : okRow okMet l) : ∃ v, cs[o]? = some v ∧ MetsOk w ⟨v, l⟩ := by
  obtain ⟨v, h1, h2⟩ := h
  exact ⟨v, h1, Sl.of_own h2, by have := hl.1; show l.length * 32 ≤ reachBytes; unfold reachBytes; omega, fun x hx => ⟨wfi_of (hl.2 x hx).1, wfs_of (hl.2 x hx).2.1, wfi_of (hl.2 x hx).2.2⟩⟩
theorem pols_at {l : List Pol} (h : RowAt B 110 3 Pol.cells w cs o l) (hl : okRow okPol l) : ∃ v, cs[o]? = some v ∧ PolsOk w ⟨v, l⟩ := by
  obtain ⟨v, h1, h2⟩ := h
  exact ⟨v, h1, Sl.of_own h2, by have := hl.1; show l.length * 24 ≤ reachBytes; unfold reachBytes; omega, fun x hx => ⟨wfi_of (hl.2 x hx).2.1, wfi_of (hl.2 x hx).2.2⟩⟩
theorem dones_at {l : List Done} (h : RowAt B 91 3 Done.cells w cs o l) (hl : okRow okDone l) : ∃ v, cs[o]? = some v ∧ DonesOk w ⟨v, l⟩ := by
  obtain ⟨v, h1, h2⟩ := h
  exact ⟨v, h1, Sl.of_own h2, by have := hl.1; show l.length * 24 ≤ reachBytes; unfold reachBytes; omega, fun x hx => ⟨wfi_of (hl.2 x hx).1, wfi_of (hl.2 x hx).2.1, wfi_of (hl.2 x hx).2.2⟩⟩
end
theorem labsS_of {l : List Lab} (h : okLabs l) : LabsS l := ⟨by have := h.1; omega, fun x hx => ⟨s255_of (h.2 x hx).1, s255_of (h.2 x hx).2⟩⟩
theorem reqsS_of {l : List Req} (h : okReqs l) : ReqsS l := ⟨by have := h.1; omega, fun x hx => ⟨s255_of (h.2 x hx).1, s255_of (h.2 x hx).2.1⟩⟩
theorem wz : wfi .i64 0 := rfl
theorem ws : wfs ⟨#[]⟩ := by unfold wfs reachBytes; exact Nat.zero_le _
theorem zwl_ok (w : World) : Wl.zero.Ok w := ⟨wz, wz, wz, Row.nil_ok, Row.nil_ok, Row.nil_ok, wz⟩
theorem zpd_ok (w : World) : Pd.zero.Ok w := ⟨ws, ws, wz, wz, wz, wz, Row.nil_ok, Row.nil_ok, Row.nil_ok, wz⟩
theorem znd_ok (w : World) : Nd.zero.Ok w := ⟨ws, wz, wz, Row.nil_ok, Row.nil_ok, wz⟩
theorem zgr_ok (w : World) : Gr.zero.Ok w := ⟨wz, wz, wz, wz, wz, Row.nil_ok, Row.nil_ok, wz⟩
theorem zbh_ok (w : World) : Bh.zero.Ok w := ⟨wz, wz, Row.nil_ok⟩
theorem zhp_ok (w : World) : Hp.zero.Ok w := ⟨ws, wz, wz, Row.nil_ok, wz, zbh_ok w, zbh_ok w, Row.nil_ok⟩
theorem bl_head (k : Nat) (n : ByteArray) (v : Nat) : (headB k n v).data.toList = putL k 1 ++ (eStr n ++ putL v 8) := by
  unfold headB
  simp only [bl_app, bl_put, bl_text, List.append_assoc]
/-- Of one kind's shape alone. -/
def Sole (o : Ob) : Prop :=
  (∃ n v x, o = Ob.mk 0 n v x .zero .zero .zero .zero) ∨ (∃ n v x, o = Ob.mk 1 n v .zero x .zero .zero .zero) ∨ (∃ n v x, o = Ob.mk 2 n v .zero .zero x .zero .zero) ∨ (∃ n v x, o = Ob.mk 3 n v .zero .zero .zero x .zero) ∨ (∃ n v x, o = Ob.mk 4 n v .zero .zero .zero .zero x)
/-- An object that was read. -/
def ObRd (w : World) (L : Array Value) (q : TOb) : Prop := ∃ o : Ob, L = o.cells.toArray ∧ Sole o ∧ o.Ok w ∧ ObS o ∧ (0 ≤ o.kind ∧ o.kind ≤ 4) ∧ (objB o).data.toList = eOb q
theorem ob_wl {B : Nat} {w : World} {L : Array Value} {n : ByteArray} {v : Nat} {x : TWl} (h : AtWl B w L 3 x) (F : Fr (ZH 0 n v) L 3 7) (hn : s256 n) (hv : v < 256 ^ 8) (hx : okWl x) : ObRd w L (0, n, v, .wl x) := by
  obtain ⟨a0, a1, a2, a3, a4, a5, a6⟩ := h
  obtain ⟨x0, x1, x2, x3, x4, x5, x6⟩ := hx
  obtain ⟨v3, c3, r3⟩ := labs_at a3 x3
  obtain ⟨v4, c4, r4⟩ := reqs_at a4 x4
  obtain ⟨v5, c5, r5⟩ := labs_at a5 x5
  have e := fr_split F
  rw [take_cons' 6 (o := 3) (by simpa using a0), take_cons' 5 (o := 4) (by simpa using a1), take_cons' 4 (o := 5) (by simpa using a2), take_cons' 3 (o := 6) (by simpa using c3), take_cons' 2 (o := 7) (by simpa using c4), take_cons' 1 (o := 8) (by simpa using c5), take_cons' 0 (o := 9) (by simpa using a6)] at e
  refine ⟨Ob.mk 0 n v ⟨x.1, x.2.1, x.2.2.1, ⟨v3, x.2.2.2.1⟩, ⟨v4, x.2.2.2.2.1⟩, ⟨v5, x.2.2.2.2.2.1⟩, x.2.2.2.2.2.2⟩ .zero .zero .zero .zero, ?_, ?_, ?_, ?_, (show (0 : Int) ≤ 0 ∧ (0 : Int) ≤ 4 by decide), ?_⟩
  · rw [← Array.toArray_toList (xs := L), e]; rfl
  · exact .inl ⟨n, v, _, rfl⟩
  · exact ⟨(rfl : wfi .i64 0), wfs_of hn, u64_wf hv, ⟨wfi_of x0, wfi_of x1, wfi_of x2, r3, r4, r5, wfi_of x6⟩, zpd_ok w, znd_ok w, zgr_ok w, zhp_ok w⟩
  · exact ⟨s255_of hn, fun _ => ⟨labsS_of x3, reqsS_of x4, labsS_of x5⟩, fun e => absurd (show (0 : Int) = 1 from e) (by decide), fun e => absurd (show (0 : Int) = 2 from e) (by decide), fun e => absurd (show (0 : Int) = 3 from e) (by decide), fun e => absurd (show (0 : Int) = 4 from e) (by decide)⟩
  · show (wlB (headB 0 n v) _).data.toList = _
    rw [bl_wl, bl_head]
    simp only [eOb, eShp, List.append_assoc]
    rfl
theorem ob_pd {B : Nat} {w : World} {L : Array Value} {n : ByteArray} {v : Nat} {x : TPd} (h : AtPd B w L 10 x) (F : Fr (ZH 1 n v) L 10 10) (hn : s256 n) (hv : v < 256 ^ 8) (hx : okPd x) : ObRd w L (1, n, v, .pd x) := by
  obtain ⟨a0, a1, a2, a3, a4, a5, a6, a7, a8, a9⟩ := h
  obtain ⟨x0, x1, x2, x3, x4, x5, x6, x7, x8, x9⟩ := hx
  obtain ⟨v6, c6, r6⟩ := labs_at a6 x6
  obtain ⟨v7, c7, r7⟩ := reqs_at a7 x7
  obtain ⟨v8, c8, r8⟩ := labs_at a8 x8
  have e := fr_split F
  rw [take_cons' 9 (o := 10) (by simpa using a0), take_cons' 8 (o := 11) (by simpa using a1), take_cons' 7 (o := 12) (by simpa using a2), take_cons' 6 (o := 13) (by simpa using a3), take_cons' 5 (o := 14) (by simpa using a4), take_cons' 4 (o := 15) (by simpa using a5), take_cons' 3 (o := 16) (by simpa using c6), take_cons' 2 (o := 17) (by simpa using c7), take_cons' 1 (o := 18) (by simpa using c8), take_cons' 0 (o := 19) (by simpa using a9)] at e
  refine ⟨Ob.mk 1 n v .zero ⟨x.1, x.2.1, x.2.2.1, x.2.2.2.1, x.2.2.2.2.1, x.2.2.2.2.2.1, ⟨v6, x.2.2.2.2.2.2.1⟩, ⟨v7, x.2.2.2.2.2.2.2.1⟩, ⟨v8, x.2.2.2.2.2.2.2.2.1⟩, x.2.2.2.2.2.2.2.2.2⟩ .zero .zero .zero, ?_, ?_, ?_, ?_, (show (0 : Int) ≤ 1 ∧ (1 : Int) ≤ 4 by decide), ?_⟩
  · rw [← Array.toArray_toList (xs := L), e]; rfl
  · exact .inr (.inl ⟨n, v, _, rfl⟩)
  · exact ⟨(rfl : wfi .i64 1), wfs_of hn, u64_wf hv, zwl_ok w, ⟨wfs_of x0, wfs_of x1, wfi_of x2, wfi_of x3, wfi_of x4, wfi_of x5, r6, r7, r8, wfi_of x9⟩, znd_ok w, zgr_ok w, zhp_ok w⟩
  · exact ⟨s255_of hn, fun e => absurd (show (1 : Int) = 0 from e) (by decide), fun _ => ⟨s255_of x0, s255_of x1, labsS_of x6, reqsS_of x7, labsS_of x8⟩, fun e => absurd (show (1 : Int) = 2 from e) (by decide), fun e => absurd (show (1 : Int) = 3 from e) (by decide), fun e => absurd (show (1 : Int) = 4 from e) (by decide)⟩
  · show (pdB (headB 1 n v) _).data.toList = _
    rw [bl_pd, bl_head]
    simp only [eOb, eShp, List.append_assoc]
    rfl
theorem ob_nd {B : Nat} {w : World} {L : Array Value} {n : ByteArray} {v : Nat} {x : TNd} (h : AtNd B w L 20 x) (F : Fr (ZH 2 n v) L 20 7) (hn : s256 n) (hv : v < 256 ^ 8) (hx : okNd x) : ObRd w L (2, n, v, .nd x) := by
  obtain ⟨a0, a1, a2, a3, a4, a5, a6⟩ := h
  obtain ⟨x0, x1, x2, x3, x4, x5, x6⟩ := hx
  obtain ⟨v3, c3, r3⟩ := labs_at a3 x3
  obtain ⟨v4, c4, r4⟩ := labs_at a4 x4
  have e := fr_split F
  rw [take_cons' 6 (o := 20) (by simpa using a0), take_cons' 5 (o := 21) (by simpa using a1), take_cons' 4 (o := 22) (by simpa using a2), take_cons' 3 (o := 23) (by simpa using c3), take_cons' 2 (o := 24) (by simpa using c4), take_cons' 1 (o := 25) (by simpa using a5), take_cons' 0 (o := 26) (by simpa using a6)] at e
  refine ⟨Ob.mk 2 n v .zero .zero ⟨x.1, x.2.1, x.2.2.1, ⟨v3, x.2.2.2.1⟩, ⟨v4, x.2.2.2.2.1⟩, x.2.2.2.2.2.1, x.2.2.2.2.2.2⟩ .zero .zero, ?_, ?_, ?_, ?_, (show (0 : Int) ≤ 2 ∧ (2 : Int) ≤ 4 by decide), ?_⟩
  · rw [← Array.toArray_toList (xs := L), e]; rfl
  · exact .inr (.inr (.inl ⟨n, v, _, rfl⟩))
  · exact ⟨(rfl : wfi .i64 2), wfs_of hn, u64_wf hv, zwl_ok w, zpd_ok w, ⟨wfs_of x0, wfi_of x1, wfi_of x2, r3, r4, wfi_of x5⟩, zgr_ok w, zhp_ok w⟩
  · exact ⟨s255_of hn, fun e => absurd (show (2 : Int) = 0 from e) (by decide), fun e => absurd (show (2 : Int) = 1 from e) (by decide), fun _ => ⟨s255_of x0, labsS_of x3, labsS_of x4⟩, fun e => absurd (show (2 : Int) = 3 from e) (by decide), fun e => absurd (show (2 : Int) = 4 from e) (by decide)⟩
  · show (ndB (headB 2 n v) _).data.toList = _
    rw [bl_nd, bl_head]
    simp only [eOb, eShp, List.append_assoc]
    rfl
theorem ob_gr {B : Nat} {w : World} {L : Array Value} {n : ByteArray} {v : Nat} {x : TGr} (h : AtGr B w L 27 x) (F : Fr (ZH 3 n v) L 27 8) (hn : s256 n) (hv : v < 256 ^ 8) (hx : okGr x) : ObRd w L (3, n, v, .gr x) := by
  obtain ⟨a0, a1, a2, a3, a4, a5, a6, a7⟩ := h
  obtain ⟨x0, x1, x2, x3, x4, x5, x6, x7⟩ := hx
  obtain ⟨v5, c5, r5⟩ := labs_at a5 x5
  obtain ⟨v6, c6, r6⟩ := labs_at a6 x6
  have e := fr_split F
  rw [take_cons' 7 (o := 27) (by simpa using a0), take_cons' 6 (o := 28) (by simpa using a1), take_cons' 5 (o := 29) (by simpa using a2), take_cons' 4 (o := 30) (by simpa using a3), take_cons' 3 (o := 31) (by simpa using a4), take_cons' 2 (o := 32) (by simpa using c5), take_cons' 1 (o := 33) (by simpa using c6), take_cons' 0 (o := 34) (by simpa using a7)] at e
  refine ⟨Ob.mk 3 n v .zero .zero .zero ⟨x.1, x.2.1, x.2.2.1, x.2.2.2.1, x.2.2.2.2.1, ⟨v5, x.2.2.2.2.2.1⟩, ⟨v6, x.2.2.2.2.2.2.1⟩, x.2.2.2.2.2.2.2⟩ .zero, ?_, ?_, ?_, ?_, (show (0 : Int) ≤ 3 ∧ (3 : Int) ≤ 4 by decide), ?_⟩
  · rw [← Array.toArray_toList (xs := L), e]; rfl
  · exact .inr (.inr (.inr (.inl ⟨n, v, _, rfl⟩)))
  · exact ⟨(rfl : wfi .i64 3), wfs_of hn, u64_wf hv, zwl_ok w, zpd_ok w, znd_ok w, ⟨wfi_of x0, wfi_of x1, wfi_of x2, wfi_of x3, wfi_of x4, r5, r6, wfi_of x7⟩, zhp_ok w⟩
  · exact ⟨s255_of hn, fun e => absurd (show (3 : Int) = 0 from e) (by decide), fun e => absurd (show (3 : Int) = 1 from e) (by decide), fun e => absurd (show (3 : Int) = 2 from e) (by decide), fun _ => ⟨labsS_of x5, labsS_of x6⟩, fun e => absurd (show (3 : Int) = 4 from e) (by decide)⟩
  · show (grB (headB 3 n v) _).data.toList = _
    rw [bl_gr, bl_head]
    simp only [eOb, eShp, List.append_assoc]
    rfl
theorem ob_hp {B : Nat} {w : World} {L : Array Value} {n : ByteArray} {v : Nat} {x : THp} (h : AtHp B w L 35 x) (F : Fr (ZH 4 n v) L 35 12) (hn : s256 n) (hv : v < 256 ^ 8) (hx : okHp x) : ObRd w L (4, n, v, .hp x) := by
  obtain ⟨a0, a1, a2, a3, a4, ⟨a5, a6, a7⟩, ⟨a8, a9, a10⟩, a11⟩ := h
  obtain ⟨x0, x1, x2, x3, x4, ⟨x5, x6, x7⟩, ⟨x8, x9, x10⟩, x11⟩ := hx
  obtain ⟨v3, c3, r3⟩ := mets_at a3 x3
  obtain ⟨v7, c7, r7⟩ := pols_at a7 x7
  obtain ⟨v10, c10, r10⟩ := pols_at a10 x10
  obtain ⟨v11, c11, r11⟩ := dones_at a11 x11
  have e := fr_split F
  rw [take_cons' 11 (o := 35) (by simpa using a0), take_cons' 10 (o := 36) (by simpa using a1), take_cons' 9 (o := 37) (by simpa using a2), take_cons' 8 (o := 38) (by simpa using c3), take_cons' 7 (o := 39) (by simpa using a4), take_cons' 6 (o := 40) (by simpa using a5), take_cons' 5 (o := 41) (by simpa using a6), take_cons' 4 (o := 42) (by simpa using c7), take_cons' 3 (o := 43) (by simpa using a8), take_cons' 2 (o := 44) (by simpa using a9), take_cons' 1 (o := 45) (by simpa using c10), take_cons' 0 (o := 46) (by simpa using c11)] at e
  refine ⟨Ob.mk 4 n v .zero .zero .zero .zero ⟨x.1, x.2.1, x.2.2.1, ⟨v3, x.2.2.2.1⟩, x.2.2.2.2.1, ⟨x.2.2.2.2.2.1.1, x.2.2.2.2.2.1.2.1, ⟨v7, x.2.2.2.2.2.1.2.2⟩⟩, ⟨x.2.2.2.2.2.2.1.1, x.2.2.2.2.2.2.1.2.1, ⟨v10, x.2.2.2.2.2.2.1.2.2⟩⟩, ⟨v11, x.2.2.2.2.2.2.2⟩⟩, ?_, ?_, ?_, ?_, (show (0 : Int) ≤ 4 ∧ (4 : Int) ≤ 4 by decide), ?_⟩
  · rw [← Array.toArray_toList (xs := L), e]; rfl
  · exact .inr (.inr (.inr (.inr ⟨n, v, _, rfl⟩)))
  · exact ⟨(rfl : wfi .i64 4), wfs_of hn, u64_wf hv, zwl_ok w, zpd_ok w, znd_ok w, zgr_ok w, ⟨wfs_of x0, wfi_of x1, wfi_of x2, r3, wfi_of x4, ⟨wfi_of x5, wfi_of x6, r7⟩, ⟨wfi_of x8, wfi_of x9, r10⟩, r11⟩⟩
  · exact ⟨s255_of hn, fun e => absurd (show (4 : Int) = 0 from e) (by decide), fun e => absurd (show (4 : Int) = 1 from e) (by decide), fun e => absurd (show (4 : Int) = 2 from e) (by decide), fun e => absurd (show (4 : Int) = 3 from e) (by decide), fun _ => ⟨s255_of x0, by have := x3.1; simp only; omega, fun m hm => s255_of (x3.2 m hm).2.1, by have := x7.1; show _ ≤ 255; simp only; omega, by have := x10.1; show _ ≤ 255; simp only; omega, by have := x11.1; simp only; omega⟩⟩
  · show (hpB (headB 4 n v) _).data.toList = _
    rw [bl_hp, bl_head]
    simp only [eOb, eShp, List.append_assoc]
    rfl
theorem ob_of {B : Nat} {w : World} {L : Array Value} {q : TOb} (h : AtOb B w L q.1 q.2.1 q.2.2.1 q.2.2.2) (hq : okOb q) : ObRd w L q := by
  obtain ⟨k, n, v, s⟩ := q
  obtain ⟨h1, h2, h3, h4⟩ := hq
  simp only at h1 h2 h3 h4 h
  cases s with
  | wl x => obtain ⟨rfl, ha, hF⟩ := h; exact ob_wl ha hF h2 h3 h4.2
  | pd x => obtain ⟨rfl, ha, hF⟩ := h; exact ob_pd ha hF h2 h3 h4.2
  | nd x => obtain ⟨rfl, ha, hF⟩ := h; exact ob_nd ha hF h2 h3 h4.2
  | gr x => obtain ⟨rfl, ha, hF⟩ := h; exact ob_gr ha hF h2 h3 h4.2
  | hp x => obtain ⟨rfl, ha, hF⟩ := h; exact ob_hp ha hF h2 h3 h4.2
end Go.Proofs.Ythdjfcfbmmmmcaa
