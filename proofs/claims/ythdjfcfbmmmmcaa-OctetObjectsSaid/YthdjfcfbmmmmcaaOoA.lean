/-
  Of each kind of object: what its shape writes, what 'short' means of it, and its bytes; all in one. The walk of trimtablaw06.few: are an object's rows of at most 300 things in all? (printed by wip/gen_oo2.py) The walk of the law OctetObjects; that Empty says yes of an object that was read is a premise here. The walk of OctetObjects at its argument as it comes.
-/
import Derived.Test.YthdjfcfbmmmmcaaWpB
import Derived.Test.YthdjfcfbmmmmcaaOr1
import Derived.Test.YthdjfcfbmmmmcaaOr0
namespace Go.Proofs.Ythdjfcfbmmmmcaa
open Go.RowKit Go.Proofs.Mem
set_option linter.unusedVariables false
set_option linter.unusedSimpArgs false
theorem shlL_iff (l : List Lab) : shlL l = true ↔ okLabs l := by
  unfold shlL shlX
  simp only [Bool.and_eq_true, List.all_eq_true, decide_eq_true_eq]
  constructor
  · rintro ⟨h1, h2⟩
    exact ⟨by omega, fun x hx => ⟨by have := (h1 x hx).1; unfold s256; omega, by have := (h1 x hx).2; unfold s256; omega⟩⟩
  · rintro ⟨h1, h2⟩
    refine ⟨fun x hx => ?_, by omega⟩
    have h3 : x.key.size < 256 := (h2 x hx).1
    have h4 : x.value.size < 256 := (h2 x hx).2
    exact ⟨by omega, by omega⟩
theorem shaL_iff (l : List Req) (hw : ∀ x ∈ l, x.Wf) : shaL l = true ↔ okReqs l := by
  unfold shaL shaX
  simp only [Bool.and_eq_true, List.all_eq_true, decide_eq_true_eq]
  constructor
  · rintro ⟨h1, h2⟩
    exact ⟨by omega, fun x hx => ⟨by have := (h1 x hx).1; unfold s256; omega, by have := (h1 x hx).2; unfold s256; omega, i64ok_of (hw x hx).2.2⟩⟩
  · rintro ⟨h1, h2⟩
    refine ⟨fun x hx => ?_, by omega⟩
    have h3 : x.key.size < 256 := (h2 x hx).1
    have h4 : x.value.size < 256 := (h2 x hx).2.1
    exact ⟨by omega, by omega⟩
theorem size_iff (s : ByteArray) : decide (s.size ≤ 255) = true ↔ s256 s := by rw [decide_eq_true_eq]; unfold s256; omega
theorem len_iff {α : Type} {l : List α} {ok : α → Prop} (h : ∀ x ∈ l, ok x) : decide (l.length ≤ 255) = true ↔ okRow ok l := by
  rw [decide_eq_true_eq]; unfold okRow
  constructor
  · intro h1; exact ⟨by omega, h⟩
  · intro h1; have := h1.1; omega
theorem met_iff (l : List Mem.Met) (hw : ∀ x ∈ l, x.Wf) : (l.all metX = true ∧ decide (l.length ≤ 255) = true) ↔ okRow okMet l := by
  unfold metX
  rw [List.all_eq_true]
  simp only [decide_eq_true_eq]
  constructor
  · rintro ⟨h1, h2⟩
    exact ⟨by omega, fun x hx => ⟨i64ok_of (hw x hx).1, by have := h1 x hx; unfold s256; omega, i64ok_of (hw x hx).2.2⟩⟩
  · rintro ⟨h1, h2⟩
    refine ⟨fun x hx => ?_, by omega⟩
    have h3 : x.name.size < 256 := (h2 x hx).2.1
    omega
/-- The object's version as a number. -/
def verN (o : Ob) : Nat := o.version.toNat
/-- All rows are few. -/
structure FewOb (o : Ob) : Prop where
  w : fewWl o.w
  p : fewPd o.p
  n : fewNd o.n
  g : fewGr o.g
  h : fewHp o.h
/-- All that the law asks of an object of one of the five kinds; b: is it short? -/
structure Pack (w : World) (o : Ob) (k : Nat) (q : Shp) (b : Bool) : Prop where
  lt : k < 5
  kind : o.kind = k
  shw : FewOb o → ∀ W, o.Ok W → ShW W o.cells.toArray k q
  short : ∀ W, o.Ok W → Calls Try.prog 13 #[.agg o.cells.toArray] W fun e w' => e = .returned (.bool b) ∧ Below W.heap.size W w'
  iff : b = true ↔ okOb (k, o.name, verN o, q)
  obs : b = true → ObS o
  bytes : b = true → (objB o).data.toList = eOb (k, o.name, verN o, q)
theorem ver_lt {o : Ob} {w : World} (ho : o.Ok w) : verN o < 256 ^ 8 ∧ o.version = (verN o : Int) := by
  obtain ⟨n, hn, he⟩ := u64_nat ho.version
  unfold verN
  rw [he]
  exact ⟨by simp; omega, by simp⟩
theorem okOb_iff {k : Nat} {n : ByteArray} {v : Nat} {q : Shp} {c : Bool} (hk : k < 5) (hv : v < 256 ^ 8) (hc : c = true ↔ okShp k q) : (decide (n.size ≤ 255) && c) = true ↔ okOb (k, n, v, q) := by
  rw [Bool.and_eq_true, size_iff, hc]
  unfold okOb
  simp only
  constructor
  · rintro ⟨h1, h2⟩; exact ⟨by omega, h1, hv, h2⟩
  · rintro ⟨-, h1, -, h2⟩; exact ⟨h1, h2⟩
theorem pack_wl {w : World} {o : Ob} (ho : o.Ok w) (hk : o.kind = 0) : Pack w o 0 (.wl (Wl.tup o.w)) (decide (o.name.size ≤ 255) && wlSh o.w) := by
  have hv := ver_lt ho
  have hi : wlSh o.w = true ↔ okShp 0 (.wl (Wl.tup o.w)) := by
    unfold wlSh
    rw [Bool.and_eq_true, Bool.and_eq_true, shlL_iff, shaL_iff _ ho.w.select.2.2, shlL_iff]
    unfold okShp okWl Wl.tup
    simp only [true_and]
    constructor
    · rintro ⟨h1, h2, h3⟩; exact ⟨i64ok_of ho.w.replicas, i64ok_of ho.w.cpu, i64ok_of ho.w.mem, h1, h2, h3, i64ok_of ho.w.warm⟩
    · rintro ⟨-, -, -, h1, h2, h3, -⟩; exact ⟨h1, h2, h3⟩
  have hI := okOb_iff (n := o.name) (by omega : 0 < 5) hv.1 hi
  refine ⟨by omega, hk, fun hf W hW => shw_wl o.w (by rw [← hk]; rfl) (fun i hi => by rcases i with _ | _ | _ | _ | _ | _ | _ | i <;> first | rfl | omega) hW.w hf.w, fun W hW => short_wl o W hk hW.w hW.name, hI, fun hb => ?_, fun hb => ?_⟩
  · have h := hI.1 hb
    obtain ⟨-, h1, -, -, -, -, -, h2, h3, h4, -⟩ := h
    exact ⟨s255_of h1, fun _ => ⟨labsS_of h2, reqsS_of h3, labsS_of h4⟩, fun e => absurd (hk.symm.trans e) (by decide), fun e => absurd (hk.symm.trans e) (by decide), fun e => absurd (hk.symm.trans e) (by decide), fun e => absurd (hk.symm.trans e) (by decide)⟩
  · unfold objB
    rw [if_pos hk, bl_wl, hk]
    show (headB 0 o.name (verN o)).data.toList ++ _ = _
    rw [bl_head]
    simp only [eOb, eShp, List.append_assoc]
theorem pack_pd {w : World} {o : Ob} (ho : o.Ok w) (hk : o.kind = 1) : Pack w o 1 (.pd (Pd.tup o.p)) (decide (o.name.size ≤ 255) && pdSh o.p) := by
  have hv := ver_lt ho
  have hi : pdSh o.p = true ↔ okShp 1 (.pd (Pd.tup o.p)) := by
    unfold pdSh
    rw [Bool.and_eq_true, Bool.and_eq_true, Bool.and_eq_true, Bool.and_eq_true, size_iff, size_iff, shlL_iff, shaL_iff _ ho.p.select.2.2, shlL_iff]
    unfold okShp okPd Pd.tup
    simp only [true_and]
    constructor
    · rintro ⟨h1, h2, h3, h4, h5⟩; exact ⟨h1, h2, i64ok_of ho.p.phase, i64ok_of ho.p.since, i64ok_of ho.p.cpu, i64ok_of ho.p.mem, h3, h4, h5, i64ok_of ho.p.warm⟩
    · rintro ⟨h1, h2, -, -, -, -, h3, h4, h5, -⟩; exact ⟨h1, h2, h3, h4, h5⟩
  have hI := okOb_iff (n := o.name) (by omega : 1 < 5) hv.1 hi
  refine ⟨by omega, hk, fun hf W hW => shw_pd o.p (by rw [← hk]; rfl) (fun i hi => by rcases i with _ | _ | _ | _ | _ | _ | _ | _ | _ | _ | i <;> first | rfl | omega) hW.p hf.p, fun W hW => short_pd o W hk hW.p hW.name, hI, fun hb => ?_, fun hb => ?_⟩
  · have h := hI.1 hb
    obtain ⟨-, h1, -, -, h2, h3, -, -, -, -, h4, h5, h6, -⟩ := h
    exact ⟨s255_of h1, fun e => absurd (hk.symm.trans e) (by decide), fun _ => ⟨s255_of h2, s255_of h3, labsS_of h4, reqsS_of h5, labsS_of h6⟩, fun e => absurd (hk.symm.trans e) (by decide), fun e => absurd (hk.symm.trans e) (by decide), fun e => absurd (hk.symm.trans e) (by decide)⟩
  · unfold objB
    rw [if_neg (by omega), if_pos hk, bl_pd, hk]
    show (headB 1 o.name (verN o)).data.toList ++ _ = _
    rw [bl_head]
    simp only [eOb, eShp, List.append_assoc]
theorem pack_nd {w : World} {o : Ob} (ho : o.Ok w) (hk : o.kind = 2) : Pack w o 2 (.nd (Nd.tup o.n)) (decide (o.name.size ≤ 255) && ndSh o.n) := by
  have hv := ver_lt ho
  have hi : ndSh o.n = true ↔ okShp 2 (.nd (Nd.tup o.n)) := by
    unfold ndSh
    rw [Bool.and_eq_true, Bool.and_eq_true, size_iff, shlL_iff, shlL_iff]
    unfold okShp okNd Nd.tup
    simp only [true_and]
    constructor
    · rintro ⟨h1, h2, h3⟩; exact ⟨h1, i64ok_of ho.n.cpu, i64ok_of ho.n.mem, h2, h3, i64ok_of ho.n.since, trivial⟩
    · rintro ⟨h1, -, -, h2, h3, -, -⟩; exact ⟨h1, h2, h3⟩
  have hI := okOb_iff (n := o.name) (by omega : 2 < 5) hv.1 hi
  refine ⟨by omega, hk, fun hf W hW => shw_nd o.n (by rw [← hk]; rfl) (fun i hi => by rcases i with _ | _ | _ | _ | _ | _ | _ | i <;> first | rfl | omega) hW.n hf.n, fun W hW => short_nd o W hk hW.n hW.name, hI, fun hb => ?_, fun hb => ?_⟩
  · have h := hI.1 hb
    obtain ⟨-, h1, -, -, h2, -, -, h3, h4, -, -⟩ := h
    exact ⟨s255_of h1, fun e => absurd (hk.symm.trans e) (by decide), fun e => absurd (hk.symm.trans e) (by decide), fun _ => ⟨s255_of h2, labsS_of h3, labsS_of h4⟩, fun e => absurd (hk.symm.trans e) (by decide), fun e => absurd (hk.symm.trans e) (by decide)⟩
  · unfold objB
    rw [if_neg (by omega), if_neg (by omega), if_pos hk, bl_nd, hk]
    show (headB 2 o.name (verN o)).data.toList ++ _ = _
    rw [bl_head]
    simp only [eOb, eShp, List.append_assoc]
theorem pack_gr {w : World} {o : Ob} (ho : o.Ok w) (hk : o.kind = 3) : Pack w o 3 (.gr (Gr.tup o.g)) (decide (o.name.size ≤ 255) && grSh o.g) := by
  have hv := ver_lt ho
  have hi : grSh o.g = true ↔ okShp 3 (.gr (Gr.tup o.g)) := by
    unfold grSh
    rw [Bool.and_eq_true, shlL_iff, shlL_iff]
    unfold okShp okGr Gr.tup
    simp only [true_and]
    constructor
    · rintro ⟨h2, h3⟩; exact ⟨i64ok_of ho.g.min, i64ok_of ho.g.max, i64ok_of ho.g.target, i64ok_of ho.g.cpu, i64ok_of ho.g.mem, h2, h3, i64ok_of ho.g.priority⟩
    · rintro ⟨-, -, -, -, -, h2, h3, -⟩; exact ⟨h2, h3⟩
  have hI := okOb_iff (n := o.name) (by omega : 3 < 5) hv.1 hi
  refine ⟨by omega, hk, fun hf W hW => shw_gr o.g (by rw [← hk]; rfl) (fun i hi => by rcases i with _ | _ | _ | _ | _ | _ | _ | _ | i <;> first | rfl | omega) hW.g hf.g, fun W hW => short_gr o W hk hW.g hW.name, hI, fun hb => ?_, fun hb => ?_⟩
  · have h := hI.1 hb
    obtain ⟨-, h1, -, -, -, -, -, -, -, h3, h4, -⟩ := h
    exact ⟨s255_of h1, fun e => absurd (hk.symm.trans e) (by decide), fun e => absurd (hk.symm.trans e) (by decide), fun e => absurd (hk.symm.trans e) (by decide), fun _ => ⟨labsS_of h3, labsS_of h4⟩, fun e => absurd (hk.symm.trans e) (by decide)⟩
  · unfold objB
    rw [if_neg (by omega), if_neg (by omega), if_neg (by omega), if_pos hk, bl_gr, hk]
    show (headB 3 o.name (verN o)).data.toList ++ _ = _
    rw [bl_head]
    simp only [eOb, eShp, List.append_assoc]
theorem pack_hp {w : World} {o : Ob} (ho : o.Ok w) (hk : o.kind = 4) : Pack w o 4 (.hp (Hp.tup o.h)) (decide (o.name.size ≤ 255) && hpSh o.h) := by
  have hv := ver_lt ho
  have hpol : ∀ {r : Row Pol}, PolsOk w r → (decide (r.l.length ≤ 255) = true ↔ okRow okPol r.l) := fun hr => len_iff fun x hx => ⟨trivial, i64ok_of (hr.2.2 x hx).1, i64ok_of (hr.2.2 x hx).2⟩
  have hi : hpSh o.h = true ↔ okShp 4 (.hp (Hp.tup o.h)) := by
    have hm := met_iff o.h.metrics.l ho.h.metrics.2.2
    unfold hpSh
    rw [Bool.and_eq_true, Bool.and_eq_true, Bool.and_eq_true, Bool.and_eq_true, Bool.and_eq_true, size_iff, hpol ho.h.up.policies, hpol ho.h.down.policies,
      len_iff (l := o.h.past.l) (ok := okDone) (fun x hx => ⟨i64ok_of (ho.h.past.2.2 x hx).1, i64ok_of (ho.h.past.2.2 x hx).2.1, i64ok_of (ho.h.past.2.2 x hx).2.2⟩)]
    unfold okShp okHp Hp.tup okBh Bh.tup
    simp only [true_and]
    constructor
    · rintro ⟨h1, h2, h3, h4, h5, h6⟩
      exact ⟨h2, i64ok_of ho.h.min, i64ok_of ho.h.max, hm.1 ⟨h1, h3⟩, i64ok_of ho.h.tolerance, ⟨i64ok_of ho.h.up.window, i64ok_of ho.h.up.pick, h5⟩, ⟨i64ok_of ho.h.down.window, i64ok_of ho.h.down.pick, h6⟩, h4⟩
    · rintro ⟨h2, -, -, h13, -, ⟨-, -, h5⟩, ⟨-, -, h6⟩, h4⟩
      exact ⟨(hm.2 h13).1, h2, (hm.2 h13).2, h4, h5, h6⟩
  have hI := okOb_iff (n := o.name) (by omega : 4 < 5) hv.1 hi
  refine ⟨by omega, hk, fun hf W hW => shw_hp o.h (by rw [← hk]; rfl) (fun i hi => by rcases i with _ | _ | _ | _ | _ | _ | _ | _ | _ | _ | _ | _ | i <;> first | rfl | omega) hW.h hf.h, fun W hW => short_hp o W hk hW.h hW.name, hI, fun hb => ?_, fun hb => ?_⟩
  · have h := hI.1 hb
    obtain ⟨-, h1, -, -, h2, -, -, h3, -, ⟨-, -, h4⟩, ⟨-, -, h5⟩, h6⟩ := h
    exact ⟨s255_of h1, fun e => absurd (hk.symm.trans e) (by decide), fun e => absurd (hk.symm.trans e) (by decide), fun e => absurd (hk.symm.trans e) (by decide), fun e => absurd (hk.symm.trans e) (by decide), fun _ =>
      ⟨s255_of h2, by have := h3.1; show o.h.metrics.l.length ≤ 255; simp only [Hp.tup] at this; omega, fun m hm => s255_of (h3.2 m hm).2.1, by have := h4.1; show o.h.up.policies.l.length ≤ 255; simp only [Hp.tup, Bh.tup] at this; omega, by have := h5.1; show o.h.down.policies.l.length ≤ 255; simp only [Hp.tup, Bh.tup] at this; omega, by have := h6.1; show o.h.past.l.length ≤ 255; simp only [Hp.tup] at this; omega⟩⟩
  · unfold objB
    rw [if_neg (by omega), if_neg (by omega), if_neg (by omega), if_neg (by omega), bl_hp, hk]
    show (headB 4 o.name (verN o)).data.toList ++ _ = _
    rw [bl_head]
    simp only [eOb, eShp, List.append_assoc]
theorem pack_of {w : World} {o : Ob} (ho : o.Ok w) (hk : 0 ≤ o.kind ∧ o.kind ≤ 4) : ∃ k q b, Pack w o k q b := by
  have hc : o.kind = 0 ∨ o.kind = 1 ∨ o.kind = 2 ∨ o.kind = 3 ∨ o.kind = 4 := by omega
  rcases hc with hc | hc | hc | hc | hc
  · exact ⟨_, _, _, pack_wl ho hc⟩
  · exact ⟨_, _, _, pack_pd ho hc⟩
  · exact ⟨_, _, _, pack_nd ho hc⟩
  · exact ⟨_, _, _, pack_gr ho hc⟩
  · exact ⟨_, _, _, pack_hp ho hc⟩
end Go.Proofs.Ythdjfcfbmmmmcaa
namespace Go.Proofs.Ythdjfcfbmmmmcaa
open Go.RowKit Go.Proofs.Mem
set_option linter.unusedVariables false
set_option linter.unusedSimpArgs false
def SomeFew (o : Ob) (e : Ending) : Prop := ∃ b, e = .returned (.bool b) ∧ (b = true → FewOb o)
theorem row_at {α : Type} {w : World} {s bytes : Nat} {f : α → List Value} {p : α → Prop} {r : Row α} (h : r.Ok w s bytes f p) (hb : 24 ≤ bytes) : ∃ A c, r.v = .slice A r.l.length c ∧ r.l.length ≤ 5864062014806 := by
  obtain ⟨h1, h2, _⟩ := h
  obtain ⟨A, c, e, _⟩ := id h1
  refine ⟨A, c, e, ?_⟩
  unfold reachBytes at h2
  have := Nat.mul_le_mul_left r.l.length hb
  omega
theorem cells47 (o : Ob) (ho : ∀ v ∈ o.cells, v.oneCell' = true) : Is47 o.cells.toArray := ⟨rfl, by rw [List.all_eq_true]; exact ho⟩
set_option maxHeartbeats 4000000 in
set_option maxRecDepth 100000 in
theorem few6_any (o : Ob) (w : World) (ho : o.Ok w) (hL : Is47 o.cells.toArray) :
    Calls Try.prog 15 #[.agg o.cells.toArray] w fun e w' => SomeFew o e ∧ Below w.heap.size w w' := by
  obtain ⟨A0, c0, e0, l0⟩ := row_at ho.w.labels (by decide)
  obtain ⟨n0, hn0⟩ : ∃ n, n = o.w.labels.l.length := ⟨_, rfl⟩
  rw [← hn0] at e0 l0
  have q0 : o.cells.toArray[6]? = some (.slice A0 n0 c0) := by rw [← e0]; rfl
  obtain ⟨A1, c1, e1, l1⟩ := row_at ho.w.select (by decide)
  obtain ⟨n1, hn1⟩ : ∃ n, n = o.w.select.l.length := ⟨_, rfl⟩
  rw [← hn1] at e1 l1
  have q1 : o.cells.toArray[7]? = some (.slice A1 n1 c1) := by rw [← e1]; rfl
  obtain ⟨A2, c2, e2, l2⟩ := row_at ho.w.tolerate (by decide)
  obtain ⟨n2, hn2⟩ : ∃ n, n = o.w.tolerate.l.length := ⟨_, rfl⟩
  rw [← hn2] at e2 l2
  have q2 : o.cells.toArray[8]? = some (.slice A2 n2 c2) := by rw [← e2]; rfl
  obtain ⟨A3, c3, e3, l3⟩ := row_at ho.p.labels (by decide)
  obtain ⟨n3, hn3⟩ : ∃ n, n = o.p.labels.l.length := ⟨_, rfl⟩
  rw [← hn3] at e3 l3
  have q3 : o.cells.toArray[16]? = some (.slice A3 n3 c3) := by rw [← e3]; rfl
  obtain ⟨A4, c4, e4, l4⟩ := row_at ho.p.select (by decide)
  obtain ⟨n4, hn4⟩ : ∃ n, n = o.p.select.l.length := ⟨_, rfl⟩
  rw [← hn4] at e4 l4
  have q4 : o.cells.toArray[17]? = some (.slice A4 n4 c4) := by rw [← e4]; rfl
  obtain ⟨A5, c5, e5, l5⟩ := row_at ho.p.tolerate (by decide)
  obtain ⟨n5, hn5⟩ : ∃ n, n = o.p.tolerate.l.length := ⟨_, rfl⟩
  rw [← hn5] at e5 l5
  have q5 : o.cells.toArray[18]? = some (.slice A5 n5 c5) := by rw [← e5]; rfl
  obtain ⟨A6, c6, e6, l6⟩ := row_at ho.n.labels (by decide)
  obtain ⟨n6, hn6⟩ : ∃ n, n = o.n.labels.l.length := ⟨_, rfl⟩
  rw [← hn6] at e6 l6
  have q6 : o.cells.toArray[23]? = some (.slice A6 n6 c6) := by rw [← e6]; rfl
  obtain ⟨A7, c7, e7, l7⟩ := row_at ho.n.taints (by decide)
  obtain ⟨n7, hn7⟩ : ∃ n, n = o.n.taints.l.length := ⟨_, rfl⟩
  rw [← hn7] at e7 l7
  have q7 : o.cells.toArray[24]? = some (.slice A7 n7 c7) := by rw [← e7]; rfl
  obtain ⟨A8, c8, e8, l8⟩ := row_at ho.g.labels (by decide)
  obtain ⟨n8, hn8⟩ : ∃ n, n = o.g.labels.l.length := ⟨_, rfl⟩
  rw [← hn8] at e8 l8
  have q8 : o.cells.toArray[32]? = some (.slice A8 n8 c8) := by rw [← e8]; rfl
  obtain ⟨A9, c9, e9, l9⟩ := row_at ho.g.taints (by decide)
  obtain ⟨n9, hn9⟩ : ∃ n, n = o.g.taints.l.length := ⟨_, rfl⟩
  rw [← hn9] at e9 l9
  have q9 : o.cells.toArray[33]? = some (.slice A9 n9 c9) := by rw [← e9]; rfl
  obtain ⟨A10, c10, e10, l10⟩ := row_at ho.h.metrics (by decide)
  obtain ⟨n10, hn10⟩ : ∃ n, n = o.h.metrics.l.length := ⟨_, rfl⟩
  rw [← hn10] at e10 l10
  have q10 : o.cells.toArray[38]? = some (.slice A10 n10 c10) := by rw [← e10]; rfl
  obtain ⟨A11, c11, e11, l11⟩ := row_at ho.h.up.policies (by decide)
  obtain ⟨n11, hn11⟩ : ∃ n, n = o.h.up.policies.l.length := ⟨_, rfl⟩
  rw [← hn11] at e11 l11
  have q11 : o.cells.toArray[42]? = some (.slice A11 n11 c11) := by rw [← e11]; rfl
  obtain ⟨A12, c12, e12, l12⟩ := row_at ho.h.down.policies (by decide)
  obtain ⟨n12, hn12⟩ : ∃ n, n = o.h.down.policies.l.length := ⟨_, rfl⟩
  rw [← hn12] at e12 l12
  have q12 : o.cells.toArray[45]? = some (.slice A12 n12 c12) := by rw [← e12]; rfl
  obtain ⟨A13, c13, e13, l13⟩ := row_at ho.h.past (by decide)
  obtain ⟨n13, hn13⟩ : ∃ n, n = o.h.past.l.length := ⟨_, rfl⟩
  rw [← hn13] at e13 l13
  have q13 : o.cells.toArray[46]? = some (.slice A13 n13 c13) := by rw [← e13]; rfl
  have HF := Lib.hid (show ((n0 : Int) + (n1 : Int) + (n2 : Int) + (n3 : Int) + (n4 : Int) + (n5 : Int) + (n6 : Int) + (n7 : Int) + (n8 : Int) + (n9 : Int) + (n10 : Int) + (n11 : Int) + (n12 : Int) + (n13 : Int)) ≤ 300 → FewOb o from fun h => by
    refine ⟨?_, ?_, ?_, ?_, ?_⟩
    · unfold fewWl; omega
    · unfold fewPd; omega
    · unfold fewNd; omega
    · unfold fewGr; omega
    · unfold fewHp; omega)
  clear hn0 e0 hn1 e1 hn2 e2 hn3 e3 hn4 e4 hn5 e5 hn6 e6 hn7 e7 hn8 e8 hn9 e9 hn10 e10 hn11 e11 hn12 e12 hn13 e13 ho
  have j0 : (n0 : Int) ≤ 5864062014806 := by omega
  have j1 : (n1 : Int) ≤ 5864062014806 := by omega
  have j2 : (n2 : Int) ≤ 5864062014806 := by omega
  have j3 : (n3 : Int) ≤ 5864062014806 := by omega
  have j4 : (n4 : Int) ≤ 5864062014806 := by omega
  have j5 : (n5 : Int) ≤ 5864062014806 := by omega
  have j6 : (n6 : Int) ≤ 5864062014806 := by omega
  have j7 : (n7 : Int) ≤ 5864062014806 := by omega
  have j8 : (n8 : Int) ≤ 5864062014806 := by omega
  have j9 : (n9 : Int) ≤ 5864062014806 := by omega
  have j10 : (n10 : Int) ≤ 5864062014806 := by omega
  have j11 : (n11 : Int) ≤ 5864062014806 := by omega
  have j12 : (n12 : Int) ≤ 5864062014806 := by omega
  have j13 : (n13 : Int) ≤ 5864062014806 := by omega
  clear l0 l1 l2 l3 l4 l5 l6 l7 l8 l9 l10 l11 l12 l13
  obtain ⟨L, hLe⟩ : ∃ L, L = o.cells.toArray := ⟨_, rfl⟩
  rw [← hLe] at hL q0 q1 q2 q3 q4 q5 q6 q7 q8 q9 q10 q11 q12 q13 ⊢
  have HL := Lib.hid hL
  obtain ⟨W1, hW1⟩ : ∃ W1, W1 = w.alloc (.cells L 48) := ⟨_, rfl⟩
  have hk := Bk.new w 48 L
  have hB : Below w.heap.size w W1 := by rw [hW1]; exact below_al _ _
  rw [← hW1] at hk
  have HW := Lib.hid hW1
  obtain ⟨g, hg⟩ : ∃ g, g = w.heap.size := ⟨_, rfl⟩
  rw [← hg] at hk
  have y0 := (hk.cell 6).trans q0
  have y1 := (hk.cell 7).trans q1
  have y2 := (hk.cell 8).trans q2
  have y3 := (hk.cell 16).trans q3
  have y4 := (hk.cell 17).trans q4
  have y5 := (hk.cell 18).trans q5
  have y6 := (hk.cell 23).trans q6
  have y7 := (hk.cell 24).trans q7
  have y8 := (hk.cell 32).trans q8
  have y9 := (hk.cell 33).trans q9
  have y10 := (hk.cell 38).trans q10
  have y11 := (hk.cell 42).trans q11
  have y12 := (hk.cell 45).trans q12
  have y13 := (hk.cell 46).trans q13
  have HB := Lib.hid hB
  have HG := Lib.hid hg
  clear hL hLe hk hB hW1 hg q0 q1 q2 q3 q4 q5 q6 q7 q8 q9 q10 q11 q12 q13
  go_enter Try.func15, Try.ntmps15
  go_upto_region 1 with (first | (refine wpl_allocg rfl (run_box47 HL.out rfl rfl _) ?_; rw [← HW.out, ← HG.out]))
  go_wp2_with fail
  go_ret
  exact ⟨⟨_, rfl, fun h => HF.out (by simpa using h)⟩, HB.out⟩
end Go.Proofs.Ythdjfcfbmmmmcaa
namespace Go.Proofs.Ythdjfcfbmmmmcaa
open Go.RowKit Go.Proofs.Mem
set_option linter.unusedVariables false
set_option linter.unusedSimpArgs false
theorem sl_one {w : World} {s n : Nat} {v : Value} {xs : List Value} (h : Sl w s v n xs) : v.oneCell' = true := by
  obtain ⟨A, c, rfl, _⟩ := h
  rfl
theorem ob_is47 {o : Ob} {w : World} (h : o.Ok w) : Is47 o.cells.toArray := by
  refine ⟨rfl, ?_⟩
  have a1 := sl_one h.w.labels.1
  have a2 := sl_one h.w.select.1
  have a3 := sl_one h.w.tolerate.1
  have b1 := sl_one h.p.labels.1
  have b2 := sl_one h.p.select.1
  have b3 := sl_one h.p.tolerate.1
  have c1 := sl_one h.n.labels.1
  have c2 := sl_one h.n.taints.1
  have d1 := sl_one h.g.labels.1
  have d2 := sl_one h.g.taints.1
  have e1 := sl_one h.h.metrics.1
  have e2 := sl_one h.h.up.policies.1
  have e3 := sl_one h.h.down.policies.1
  have e4 := sl_one h.h.past.1
  simp only [Ob.cells, Wl.cells, Pd.cells, Nd.cells, Gr.cells, Hp.cells, List.cons_append, List.nil_append, List.append_assoc, List.all_cons, List.all_nil, a1, a2, a3, b1, b2, b3, c1, c2, d1, d2, e1, e2, e3, e4, Bool.true_and, Bool.and_true]
  rfl
/-- Is an object of one of the five kinds, and is it short? -/
def Way (w : World) (o : Ob) : Prop := (o.kind < 0 ∨ 5 ≤ o.kind) ∨ ∃ k q b, Pack w o k q b
theorem way_of {w : World} {o : Ob} (ho : o.Ok w) : Way w o := by
  by_cases h : 0 ≤ o.kind ∧ o.kind ≤ 4
  · exact .inr (pack_of ho h)
  · exact .inl (by omega)
theorem at_kind {B : Nat} {w : World} {L : Array Value} {k : Nat} {n : ByteArray} {v : Nat} {q : Shp} (h : AtOb B w L k n v q) : L[0]? = some (.int .i64 (k : Int)) := by
  cases q <;> exact (h.2.2.out 0 (.inl (by omega))).trans rfl
set_option maxHeartbeats 4000000 in
set_option maxRecDepth 100000 in
theorem octetObjects_any (HE : Says 9) (o : Ob) (w : World) (ho : o.Ok w) :
    Calls Try.prog 4 #[.agg o.cells.toArray] w fun e w' => e = .returned (.bool true) ∧ Below w.heap.size w w' := by
  have HW := Lib.hid (way_of ho)
  have HO := Lib.hid ho
  have hL := ob_is47 ho
  have hver := ver_lt ho
  obtain ⟨z, hz⟩ : ∃ z, z = o.kind := ⟨_, rfl⟩
  obtain ⟨nm, hnm⟩ : ∃ s, s = o.name := ⟨_, rfl⟩
  obtain ⟨ver, hvr⟩ : ∃ n, n = verN o := ⟨_, rfl⟩
  have q0 : o.cells.toArray[0]? = some (.int .i64 z) := by rw [hz]; rfl
  have q1 : o.cells.toArray[1]? = some (.string nm) := by rw [hnm]; rfl
  have q2 : o.cells.toArray[2]? = some (.int .u64 ver) := by rw [hvr, ← hver.2]; rfl
  have hvl : ver ≤ 18446744073709551615 := by have := hver.1; rw [← hvr] at this; omega
  have hnl : wfs nm := by rw [hnm]; exact ho.name
  have CF := Lib.hid (fun w1 (hb : Below w.heap.size w w1) => few6_any o w1 (ho.below hb) hL)
  obtain ⟨L, hLe⟩ : ∃ L, L = o.cells.toArray := ⟨_, rfl⟩
  rw [← hLe] at hL q0 q1 q2 CF
  rw [← hLe]
  have HLe := Lib.hid hLe
  have HQ := Lib.hid (And.intro q0 (And.intro q1 (And.intro q2 (And.intro hvl hnl))))
  have HN := Lib.hid (And.intro hz (And.intro hnm hvr))
  clear hLe q0 q1 q2 hvl hnl hz hnm hvr hver ho
  have HL := Lib.hid hL
  clear hL
  have HU := Lib.hid (Try.underlying48)
  have kb := Bk.new w 48 L
  have B0 := below_al w (.cells L 48)
  go_enter Try.func4, Try.ntmps4
  go_wp2_with (first | (refine wpl_allocg rfl (run_box47 HL.out rfl rfl _) ?_))
  obtain ⟨q, hq⟩ : ∃ q, q = w.heap.size := ⟨_, rfl⟩
  have HQQ := Lib.hid hq
  rw [← hq] at kb ⊢
  clear hq
  generalize w.alloc (.cells L 48) = w1 at kb B0 ⊢
  refine (lives06_any w1).mono ?_
  rintro e w2 ⟨rfl, b2⟩
  have B2 := below_tr B0 b2
  have kb2 := kb.below' b2
  clear b2 kb B0 w1
  go_wp2_with (first | (refine wpl_loadg kb2 rfl 48 (.tmp 1) rfl rfl _ HU.out rfl (info47 HL.out) ?_))
  refine (CF.out w2 B2).mono ?_
  rintro e w3 ⟨⟨few, rfl, hfew⟩, b3⟩
  have B3 := below_tr B2 b3
  have kb3 := kb2.below' b3
  have HFew := Lib.hid hfew
  clear b3 kb2 B2 w2 hfew
  rcases few with _ | _
  · go_wp2_with fail
    refine (lives06_any w3).mono ?_
    rintro e w4 ⟨rfl, b4⟩
    go_wp2_with fail
    go_ret
    exact ⟨rfl, below_tr B3 b4⟩
  go_wp2_with fail
  have hw0 := wt_new w3
  have B4 := below_tr B3 (below_al w3 (.cells #[.slice none 0 0] 57))
  have kb4 := kb3.alloc (.cells #[.slice none 0 0] 57)
  have hqp : q < w3.heap.size := kb3.lt
  have hpw : w.heap.size ≤ w3.heap.size := B3.size
  obtain ⟨p, hp⟩ : ∃ p, p = w3.heap.size := ⟨_, rfl⟩
  rw [← hp] at hw0 hqp hpw ⊢
  clear hp
  generalize w3.alloc (.cells #[.slice none 0 0] 57) = w4 at hw0 B4 kb4 ⊢
  clear kb3 B3 w3
  refine (wput_ok 7 1 (by omega) (.inl rfl) w4 hw0 (by simp)).mono ?_
  rintro e w5 ⟨rfl, h5⟩
  have kb5 := done_bk h5 kb4 (by omega) (by simp)
  obtain ⟨r5, hw5, hr5, hT5⟩ := h5
  have B5 := hT5.below _ _ B4 hpw (by simp) B4.size
  have hqr : ∀ k, r5 = some k → q < k := by
    have := kb4.lt
    rcases hr5 with rfl | ⟨g, rfl, hg⟩
    · intro k e; cases e
    · intro k e; injection e with e; omega
  have e7 : ([] : List UInt8) ++ putL 7 1 = [7] := rfl
  rw [e7] at hw5
  clear hT5 hr5 hw0 kb4 B4 e7 w4
  go_wp2_with (first | (refine wpl_loadg kb5 rfl 48 (.tmp 1) rfl rfl _ HU.out rfl (info47 HL.out) ?_))
  rcases HW.out with hbad | ⟨k, Q, b, P⟩
  · have hbz : z < 0 ∨ 5 ≤ z := by rw [HN.out.1]; exact hbad
    clear hbad
    refine (wobj_kind HL.out w5 p z nm ver HQ.out.1 HQ.out.2.1 HQ.out.2.2.1 hbz HQ.out.2.2.2.2 HQ.out.2.2.2.1).mono ?_
    rintro e w6 ⟨rfl, b6⟩
    have B6 := below_tr B5 b6
    have kb6 := kb5.below' b6
    have hw6 := hw5.below b6
    clear b6 hw5 kb5 B5
    go_wp2_with fail
    refine (wbytes_any w6 hw6 (by simp)).mono ?_
    rintro e w7 ⟨v7, rfl, h7, b7⟩
    have B7 := below_tr B6 b7
    have kb7 := kb6.below' b7
    obtain ⟨A7, c7, rfl⟩ := own_form h7
    have c0 := (kb7.cell 0).trans HQ.out.1
    have HF := Lib.hid B7
    clear b7 hw6 kb6 B6 h7 kb7 B7
    rcases hbz with hz | hz
    · go_wp2_with fail
      go_ret
      exact ⟨rfl, HF.out⟩
    · have hz0 : ¬ z < 0 := by omega
      go_wp2_with fail
      go_ret
      exact ⟨rfl, HF.out⟩
  have HP := Lib.hid P
  have hzk : z = (k : Int) := by rw [HN.out.1]; exact P.kind
  subst hzk
  have hk5 := P.lt
  have HSW : Hid (∀ W, Below w.heap.size w W → ShW W L k Q) := Lib.hid (fun W hb => by rw [HLe.out]; exact P.shw (HFew.out (by trivial)) W (HO.out.below hb))
  have CS : Hid (∀ W, Below w.heap.size w W → Calls Try.prog 13 #[.agg L] W fun e w' => e = .returned (.bool b) ∧ Below W.heap.size W w') := Lib.hid (fun W hb => by rw [HLe.out]; exact P.short W (HO.out.below hb))
  have HI : Hid (b = true ↔ okOb (k, nm, ver, Q)) := Lib.hid (by rw [HN.out.2.1, HN.out.2.2]; exact P.iff)
  clear P
  have hki : (k : Int) < 5 := by omega
  have hk0 : ¬ (k : Int) < 0 := by omega
  have hk0' : 0 ≤ (k : Int) := by omega
  rcases b with _ | _
  · refine (wobj_long HL.out w5 p r5 [7] hw5 (by simp) k nm ver Q HQ.out.1 HQ.out.2.1 HQ.out.2.2.1 hk5 HQ.out.2.2.2.2 HQ.out.2.2.2.1 (HSW.out w5 B5) (fun h => by have := HI.out.2 h; cases this)).mono ?_
    rintro e w6 ⟨rfl, b6⟩
    have B6 := below_tr B5 b6
    have kb6 := kb5.below' b6
    have hw6 := hw5.below b6
    clear b6 hw5 kb5 B5
    go_wp2_with fail
    refine (wbytes_any w6 hw6 (by simp)).mono ?_
    rintro e w7 ⟨v7, rfl, h7, b7⟩
    have B7 := below_tr B6 b7
    have kb7 := kb6.below' b7
    obtain ⟨A7, c7, rfl⟩ := own_form h7
    have c0 := (kb7.cell 0).trans HQ.out.1
    clear b7 hw6 kb6 B6 h7
    go_wp2_with (first | (refine wpl_loadg kb7 rfl 48 (.tmp 1) rfl rfl _ HU.out rfl (info47 HL.out) ?_))
    refine (CS.out w7 B7).mono ?_
    rintro e w8 ⟨rfl, b8⟩
    have HF := Lib.hid (below_tr B7 b8)
    clear b8 kb7 B7 c0
    go_wp2_with fail
    go_ret
    exact ⟨rfl, HF.out⟩
  have hok : okOb (k, nm, ver, Q) := HI.out.1 rfl
  refine (wobj_ok HL.out w5 p r5 [7] hw5 (by simp) k nm ver Q HQ.out.1 HQ.out.2.1 HQ.out.2.2.1 hk5 HQ.out.2.2.2.2 HQ.out.2.2.2.1 (HSW.out w5 B5) hok).mono ?_
  rintro e w6 ⟨rfl, h6, hle6⟩
  have kb6 := done_bk h6 kb5 (by omega) (fun e => by have := hqr _ e.symm; omega)
  have hge6 : 1 ≤ (eOb (k, nm, ver, Q)).length := by unfold eOb; rw [List.length_append, putL_len]; omega
  obtain ⟨r6, hw6, hr6, hT6⟩ := h6
  have B6 := hT6.below _ _ B5 hpw (fun k e => by have := hqr k e; have := HQQ.out; omega) B5.size
  have HT := Lib.hid hok
  clear hT6 hr6 hw5 kb5 B5 hok HSW
  obtain ⟨bs, hbs⟩ : ∃ bs, bs = eOb (k, nm, ver, Q) := ⟨_, rfl⟩
  rw [← hbs] at hw6 hle6 hge6
  have HBS := Lib.hid hbs
  obtain ⟨m, hm⟩ : ∃ m, m = bs.length := ⟨_, rfl⟩
  have hm1 : ([7] ++ bs).length = m + 1 := by simp; omega
  go_wp2_with fail
  refine (wbytes_any w6 hw6 (by rw [hm1]; omega)).mono ?_
  rintro e w7 ⟨v7, rfl, h7, b7⟩
  have B7 := below_tr B6 b7
  have kb7 := kb6.below' b7
  rw [hm1] at h7
  obtain ⟨g7, c7, rfl, hc7⟩ : ∃ g c, v7 = .slice (some ⟨g, 0, none⟩) (m + 1) c ∧ m + 1 ≤ c := by
    obtain ⟨-, h2⟩ := id h7
    rcases h2 with ⟨rfl, h2⟩ | ⟨g, cap, cur, rfl, _, _, h3, _⟩
    · omega
    · exact ⟨g, cap, rfl, h3⟩
  have S7 := Sl.of_own h7
  have c0 := (kb7.cell 0).trans HQ.out.1
  rw [← hm] at hle6 hge6
  have HM := Lib.hid hm
  clear b7 hw6 kb6 B6 h7 hm1 hm hbs
  go_wp2_with (first | (refine wpl_loadg kb7 rfl 48 (.tmp 1) rfl rfl _ HU.out rfl (info47 HL.out) ?_))
  refine (CS.out w7 B7).mono ?_
  rintro e w8 ⟨rfl, b8⟩
  have B8 := below_tr B7 b8
  have kb8 := kb7.below' b8
  have S8 := S7.below b8
  clear b8 kb7 B7 c0 S7
  have hD : Sl w8 1 (.slice (some ⟨g7, 1, none⟩) m (c7 - 1)) m (bs.map bv) := by
    have h := Sl.drop S8 (show 1 ≤ m + 1 by omega)
    rw [if_neg (by omega)] at h
    exact h
  have CO := Lib.hid (fun w' (hb : Below w8.heap.size w8 w') => object_any o w' (by rw [← HN.out.1]; omega) (HO.out.below (B8.trans (hb.mono B8.size))) (HP.out.obs rfl))
  have hby : (objB o).data.toList = bs := by rw [HBS.out, HN.out.2.1, HN.out.2.2]; exact HP.out.bytes rfl
  have hbb : (⟨bs.toArray⟩ : ByteArray) = objB o := by
    rw [← hby]
  have CV := Lib.hid (fun w' (hb : Below w8.heap.size w8 w') => conv_bytes bs m HM.out.symm _ w' (hD.below hb))
  rw [hbb] at CV
  rw [← HLe.out] at CO
  obtain ⟨sB, hsB⟩ : ∃ s, s = objB o := ⟨_, rfl⟩
  rw [← hsB] at CO CV
  have HD := Lib.hid hD
  clear hby hbb hsB hD S8
  go_wp2_with fail
  refine wp_region_quiet_below (by kernel_rfl) (by kernel_rfl) ?_
  quiet_step (fail)
  quiet_step (fail)
  quiet_step (fail)
  quiet_step (fail)
  have hc1 : (c7 = 1) = False := by simp; omega
  refine q_read rfl (.slice (some ⟨g7, 1, none⟩) m (c7 - 1)) (fun w' hb => ?_) ?_
  · go_simp
    intro h
    omega
  refine q_conv rfl 22 9 (.tmp 54) rfl (.slice (some ⟨g7, 1, none⟩) m (c7 - 1)) rfl (.string sB) (fun w' hb => CV.out w' hb) ?_
  refine q_loadw kb8 rfl 48 (.tmp 1) rfl rfl _ HU.out rfl (info47 HL.out) ?_
  quiet_step ((go_at_call 14; (with_reducible exact Calls.regrown_of (CO.out _ (below_regrown _ _ _)))))
  quiet_step (fail)
  quiet_step (fail)
  refine q_done fun w9 b9 => ?_
  have B9 := below_tr B8 b9
  have kb9 := kb8.below' b9
  have S9 := HD.out.below b9
  clear b9 kb8 B8 CO CV HD
  have h0m : (1 : Int) ≤ (m : Int) + 1 := by omega
  go_wp2_with fail
  refine (read_any m bs HM.out.symm _ w9 S9 (by omega)).mono ?_
  rintro e w10 ⟨p2, rfl, ⟨r2, hR, hr2⟩, hp2, b10⟩
  have B10 := below_tr B9 b10
  have kb10 := kb9.below' b10
  have hqp2 : q ≠ p2 := by have := kb9.lt; omega
  have hp2w : w.heap.size ≤ p2 := Nat.le_trans B9.size hp2
  clear b10 kb9 B9 S9 hr2 hp2 h0m
  go_wp2_with fail
  refine (robj_rd (st := some bs) (show RS w10 p2 r2 (some bs) from ⟨hR, by have := HM.out; omega⟩)).mono ?_
  rintro e w11 ⟨st', L2, rfl, hR11, hT11, h47, hz, hS⟩
  have B11 := hT11.below _ _ B10 hp2w (by simp) B10.size
  have kb11 := hT11.bk kb10 hqp2 (by simp)
  have hback : dOb bs = some ((k, nm, ver, Q), []) := by
    have h := codec_ob.back (k, nm, ver, Q) [] HT.out
    rw [List.append_nil, ← HBS.out] at h
    exact h
  obtain ⟨rest, rfl⟩ : ∃ rest, st' = some rest := by
    cases st' with
    | none => have := hS.2 rfl bs rfl; rw [hback] at this; cases this
    | some rest => exact ⟨rest, rfl⟩
  obtain ⟨bs', q', e1, hd, hq⟩ := hS.1 rest rfl
  injection e1 with e1
  subst e1
  rw [hback] at hd
  injection hd with hd
  injection hd with hd1 hd2
  subst hd1 hd2
  obtain ⟨ob, hLo, hSole, hOk, hObS, hkind, hbytes⟩ := ob_of hq HT.out
  have HI47 : Hid ((Try.prog.info? 48).map (·.size) = some L2.size) := Lib.hid (info47 h47)
  have hL1 : L2.toList.all (·.oneCell') = true := h47.2
  have hZL : Z47.size = L2.size := h47.1.symm
  have hk6 := Bk.new w11 48 Z47
  obtain ⟨W5, hW5⟩ : ∃ W5, W5 = (w11.alloc (.cells Z47 48)).setCells w11.heap.size 0 L2.toList := ⟨_, rfl⟩
  have hb5 : Below w11.heap.size w11 W5 := by rw [hW5]; exact below_setCells _ _ (below_al w11 _) (Nat.le_refl _)
  have hkL : Bk W5 w11.heap.size 48 L2 := by rw [hW5]; exact setCells_whole hk6 hZL
  have B12 := below_tr B11 hb5
  have hR5 := hR11.1.below hb5
  have kb12 := kb11.below' hb5
  have HWW := Lib.hid hW5
  have CE := Lib.hid (fun w' (hb : Below W5.heap.size W5 w') => HE ob w' hSole ((hOk.below hb5).below hb) hObS)
  have hkk : ob.kind = o.kind := by
    rw [← HN.out.1]
    have h0 : L2[0]? = some (.int .i64 ob.kind) := by rw [hLo]; rfl
    rw [at_kind hq] at h0
    injection h0 with h0
    injection h0 with _ h0
    exact h0.symm
  have hee : objB ob = objB o := by
    have h1 := HP.out.bytes rfl
    rw [← HN.out.2.1, ← HN.out.2.2] at h1
    have : (objB ob).data = (objB o).data := by
      apply Array.toList_inj.1
      rw [hbytes, h1]
    cases h3 : objB ob; cases h4 : objB o
    rw [h3, h4] at this
    simpa using this
  have CSame := Lib.hid (fun w' (hb : Below W5.heap.size W5 w') => same_eq ob o w' o.kind (by rw [← HN.out.1]; omega) hkk rfl ((hOk.below hb5).below hb) (HO.out.below (B12.trans (hb.mono B12.size))) hObS (HP.out.obs rfl) hee)
  rw [← hLo] at CE CSame
  rw [← HLe.out] at CSame
  clear hW5 hR11 hT11 hS hz B10 kb10 hback hq hLo hSole hOk hObS hkind hbytes hkk hee hR B11 kb11 hb5
  go_upto_region 15 with (first | (refine wpl_allocg rfl (run_alloc47 rfl _) ?_) | (refine wpl_storeg (cs := L2) hk6 hZL rfl rfl 48 (.tmp 7) (.tmp 64) rfl rfl (by rfl) HI47.out hL1 ?_))
  rw [← HWW.out]
  clear hk6 HWW
  generalize w11.heap.size = g6 at hkL ⊢
  have CN := end_any W5 hR5 (by simp)
  simp only [Bool.not_false, List.isEmpty_nil, Bool.and_self] at CN
  have CN := Lib.hid CN
  clear hR5
  go_wp2_with fail
  refine CN.out.mono ?_
  rintro e wz ⟨rfl, rfl⟩
  go_wp2_with (first | (refine wpl_loadg hkL rfl 48 (.tmp 7) rfl rfl _ HU.out rfl HI47.out ?_) | (refine wpl_loadg kb12 rfl 48 (.tmp 1) rfl rfl _ HU.out rfl (info47 HL.out) ?_))
  refine (CSame.out W5 (Below.refl _ _)).mono ?_
  rintro e w13 ⟨rfl, b13⟩
  have kL13 := hkL.below' b13
  go_wp2_with (first | (refine wpl_loadg kL13 rfl 48 (.tmp 7) rfl rfl _ HU.out rfl HI47.out ?_))
  refine (CE.out w13 b13).mono ?_
  rintro e w14 ⟨rfl, b14⟩
  have HF := Lib.hid (below_tr (below_tr B12 b13) b14)
  go_wp2_with fail
  go_ret
  exact ⟨rfl, HF.out⟩
end Go.Proofs.Ythdjfcfbmmmmcaa
namespace Go.Proofs.Ythdjfcfbmmmmcaa
open Go.RowKit Go.Proofs.Mem
set_option linter.unusedVariables false
theorem octetObjects_walk (a : Array Value) (w : World) (h : Mem.Ok Try.prog w 9 48 (Value.agg a).cells.toList) :
    Calls Try.prog 4 #[.agg a] w fun e w' => e = .returned (.bool true) ∧ Below w.heap.size w w' := by
  obtain ⟨o, hp, ho⟩ := obj_of (n := 3) h
  have ha : a = o.cells.toArray := by
    have : (Value.agg a).cells.toList = a.toList := by simp [Value.cells]
    rw [this] at hp
    rw [← hp]
  subst ha
  exact octetObjects_any says_empty o w ho
end Go.Proofs.Ythdjfcfbmmmmcaa
