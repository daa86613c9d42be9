/-
  The law's act: Delete of what is there, at its version (or at none).; The law's act: an object that may not be.; A row of one object, built; a whole object, read in a drawn region.; The law's act: Create, taken.
-/
import Derived.Test.YtlhaiflebigdlaaCSFws10
import Derived.Great.FillDense
import Derived.Great.BuildSlice
section
namespace Go.Proofs.Ytlhaiflebigdlaa
open Go.RowKit Go.Proofs.Mem
set_option linter.unusedVariables false
set_option linter.unusedSimpArgs false
/-- The blocks of a store and of the law's model are others, each from each. -/
structure Apart (p b mb : Nat) (ev mev lv : Value) : Prop where
  pm : p ≠ mb
  bm : b ≠ mb
  em : ev.ownBlock ≠ some mb
  mp : mev.ownBlock ≠ some p
  mbb : mev.ownBlock ≠ some b
  me : ∀ g, mev.ownBlock = some g → ev.ownBlock ≠ some g
  lp : lv.ownBlock ≠ some p
  lb : lv.ownBlock ≠ some b
  lm : lv.ownBlock ≠ some mb
  le : ∀ g, lv.ownBlock = some g → ev.ownBlock ≠ some g
  lme : ∀ g, lv.ownBlock = some g → mev.ownBlock ≠ some g
section
variable {w w' : World} {p b n mb : Nat} {D : DataW Value} {most : Int} {now : Nat} {ev mev lv : Value} {evs mevs : List Ev}
theorem own_t3 {base s k : Nat} {e : TypeId} {v : Value} {xs : List Value} (h : w.ownsRow base e s v k xs) (ht : T3 p b ev w w') (hp : v.ownBlock ≠ some p) (hb : v.ownBlock ≠ some b) (he : ∀ g, v.ownBlock = some g → ev.ownBlock ≠ some g) : w'.ownsRow base e s v k xs :=
  own_block h fun g hg => ht.2.2.2.2 g (h.lt g hg).2 (fun e => hp (e ▸ hg)) (fun e => hb (e ▸ hg)) (fun e => he g hg e.symm)
theorem StIs.t3m (h : StIs w p b n D most now ev evs) (ht : T3 mb mb mev w w') (hp : p ≠ mb) (hb : b ≠ mb) (hpe : mev.ownBlock ≠ some p) (hbe : mev.ownBlock ≠ some b) (hem : ev.ownBlock ≠ some mb) (hee : ∀ g, ev.ownBlock = some g → mev.ownBlock ≠ some g) : StIs w' p b n D most now ev evs :=
  ⟨h.1, ht.bk h.2.1 hp hp (fun e => hpe e.symm), Mp.of_block h.2.2.1 (ht.2.2.2.2 b h.2.2.1.lt hb hb (fun e => hbe e.symm)), own_t3 h.2.2.2 ht hem hem hee⟩
theorem MdIs.t3 (h : MdIs w mb lv now mev mevs) (ht : T3 p b ev w w') (hap : Apart p b mb ev mev lv) : MdIs w' mb lv now mev mevs :=
  ⟨ht.bk h.1 (fun e => hap.pm e.symm) (fun e => hap.bm e.symm) (fun e => hap.em e.symm), own_t3 h.2 ht hap.mp hap.mbb hap.me⟩
end
/-- The blocks that an act may turn. -/
def PF (p b mb : Nat) (ev mev lv : Value) (j : Nat) : Prop := j = p ∨ j = b ∨ j = mb ∨ ev.ownBlock = some j ∨ mev.ownBlock = some j ∨ lv.ownBlock = some j
theorem Apart.next {p b mb : Nat} {ev mev lv ev' mev' lv' : Value} (h : Apart p b mb ev mev lv) {s0 s1 s2 : Nat} (h01 : s0 ≤ s1) (h12 : s1 ≤ s2) (hp : p < s0) (hb : b < s0) (hm : mb < s0) (h0e : ∀ g, ev.ownBlock = some g → g < s0) (h0m : ∀ g, mev.ownBlock = some g → g < s0) (h0l : ∀ g, lv.ownBlock = some g → g < s0)
    (he : ∀ g, ev'.ownBlock = some g → ev.ownBlock = some g ∨ (s0 ≤ g ∧ g < s1)) (hme : ∀ g, mev'.ownBlock = some g → mev.ownBlock = some g ∨ (s1 ≤ g ∧ g < s2)) (hl : ∀ g, lv'.ownBlock = some g → lv.ownBlock = some g ∨ s2 ≤ g) : Apart p b mb ev' mev' lv' where
  pm := h.pm
  bm := h.bm
  em := fun e => by
    rcases he _ e with h1 | h1
    · exact h.em h1
    · omega
  mp := fun e => by
    rcases hme _ e with h1 | h1
    · exact h.mp h1
    · omega
  mbb := fun e => by
    rcases hme _ e with h1 | h1
    · exact h.mbb h1
    · omega
  me := fun g hg e => by
    rcases hme g hg with h1 | h1 <;> rcases he g e with h2 | h2
    · exact h.me g h1 h2
    · have := h0m g h1; omega
    · have := h0e g h2; omega
    · omega
  lp := fun e => by
    rcases hl _ e with h1 | h1
    · exact h.lp h1
    · omega
  lb := fun e => by
    rcases hl _ e with h1 | h1
    · exact h.lb h1
    · omega
  lm := fun e => by
    rcases hl _ e with h1 | h1
    · exact h.lm h1
    · omega
  le := fun g hg e => by
    rcases hl g hg with h1 | h1 <;> rcases he g e with h2 | h2
    · exact h.le g h1 h2
    · have := h0l g h1; omega
    · have := h0e g h2; omega
    · omega
  lme := fun g hg e => by
    rcases hl g hg with h1 | h1 <;> rcases hme g e with h2 | h2
    · exact h.lme g h1 h2
    · have := h0l g h1; omega
    · have := h0m g h2; omega
    · omega
theorem EvTo.alt {w : World} {ev ev' : Value} {s : Nat} (h : EvTo w ev ev') (hlt : ∀ g, ev'.ownBlock = some g → g < s) : ∀ g, ev'.ownBlock = some g → ev.ownBlock = some g ∨ (w.heap.size ≤ g ∧ g < s) := fun g hg => by
  rcases h with h | ⟨g', hg', h⟩
  · exact .inl (h ▸ hg)
  · right
    have := hlt g hg
    rw [h] at hg
    injection hg with hg
    omega
/-- What an act that is taken leaves: a store, the law's model beside it. -/
def ActOut (w : World) (p b n : Nat) (D : DataW Value) (most : Int) (now : Nat) (ev : Value) (evs : List Ev) (mb : Nat) (lv mev : Value) (mevs : List Ev) (ml : List Ob) (x : Ev) (Pq : Value → Value → Value → World → Prop) (e : Ending) (w' : World) : Prop :=
  e = .returned (.bool true) ∧ ∃ ev' mev' lv', Pq ev' mev' lv' w' ∧ StIs w' p b n D most (now + 1) ev' (nextEvs evs x) ∧ MdIs w' mb lv' (now + 1) mev' (mevs ++ [x]) ∧ w'.ownsRow (mb + 1) 56 47 lv' ml.length (ml.flatMap Ob.cells) ∧ Tch (PF p b mb ev mev lv) w w' ∧ EvTo w ev ev' ∧ EvTo w mev mev' ∧ (∀ g, lv'.ownBlock = some g → w.heap.size ≤ g ∨ lv.ownBlock = some g) ∧ Apart p b mb ev' mev' lv'
theorem tch_t3 {F : Nat → Prop} {w w' : World} {p b : Nat} {ev : Value} (ht : T3 p b ev w w') (hF : ∀ j, ¬ F j → j ≠ p ∧ j ≠ b ∧ some j ≠ ev.ownBlock) : Tch F w w' :=
  ⟨ht.1, ht.2.1, ht.2.2.1, ht.size, fun i hi hn => ht.2.2.2.2 i hi (hF i hn).1 (hF i hn).2.1 (hF i hn).2.2⟩
theorem tch_set {F : Nat → Prop} {w w' : World} (h : Tch F w w') {g k : Nat} (hg : F g) (v : Value) : Tch F w (w'.setCell ⟨g, k, none⟩ v) :=
  ⟨h.1, h.2.1, h.2.2.1, by have := h.size; simp [World.setCell]; omega, fun i hi hn => (Below.heap_setCell w' _ v i (fun e => hn (by rw [e]; exact hg))).trans (h.2.2.2.2 i hi hn)⟩
theorem readsL_pass {P : Program} {ops : Array Oper} {S : World → Prop} {free : Nat → Bool} {Lq : Act → Prop} {i : Nat} {o : Oper} {r : List Nat} {a : Act} (hi : ops[i]? = some o) (hw : Region.wanted o (yielded ops a.tmps) = false) (h : wpReadsL P ops S free Lq r (a.put o.dst undef)) : wpReadsL P ops S free Lq (i :: r) a :=
  ⟨o, undef, hi, .inr ⟨hw, rfl⟩, h⟩
theorem take_flat {α : Type} {s : Nat} (f : α → List Value) (hf : ∀ x, (f x).length = s) : ∀ (xs : List α) (k : Nat), (xs.flatMap f).take (k * s) = (xs.take k).flatMap f
  | [], k => by simp
  | x :: xs, 0 => by simp
  | x :: xs, k + 1 => by
    rw [List.flatMap_cons, List.take_succ_cons, List.flatMap_cons, Nat.succ_mul, Nat.add_comm, List.take_append, hf, Nat.add_sub_cancel_left, take_flat f hf xs k, List.take_of_length_le (by rw [hf]; omega)]
theorem drop_flat8 {α : Type} {s : Nat} (f : α → List Value) (hf : ∀ x, (f x).length = s) : ∀ (xs : List α) (k : Nat), (xs.flatMap f).drop (k * s) = (xs.drop k).flatMap f
  | [], k => by simp
  | x :: xs, 0 => by simp
  | x :: xs, k + 1 => by
    rw [List.flatMap_cons, List.drop_succ_cons, Nat.succ_mul, Nat.add_comm, List.drop_append, hf, Nat.add_sub_cancel_left, drop_flat8 f hf xs k, List.drop_of_length_le (by rw [hf]; omega), List.nil_append]
theorem early_append {P : Program} {ops : Array Oper} {Q : Exit → Act → World → Prop} {S : World → Prop} {tail : Act → World → Prop} {j : Nat} {o : Oper} {r : List (Bool × Nat)} {a : Act} {w : World} (hi : ops[j]? = some o) (hgd : o.guard = none) (s x : Operand) (t : TypeId)
    (ho : o.op = .call { callee := .builtin .append, args := #[s, x], argTypes := #[t, t] })
    (base : Nat) (e : TypeId) (z : Value) (size bytes : Nat) (ht : P.underlying t = some (.slice e)) (hinfo : (P.info? e).map (fun i => (i.zero, i.size, i.bytes)) = some (some z, size, bytes))
    (hzs : z.cells.size = size) (hsz : 0 < size) (hby : 0 < bytes)
    (v : Value) (n : Nat) (xs : List Value) (hs : a.eval s = v) (hown : w.ownsRow base e size v n xs)
    (y : Value) (m : Nat) (news : List Value) (hx : a.eval x = y) (hr : Sl w size y m news) (h1 : ∀ u ∈ news, u.oneCell' = true)
    (hbytes : (n + m) * bytes ≤ 140737488355328) (hbase : base ≤ w.heap.size)
    (h : ∀ A c w', w'.ownsRow base e size (.slice A (n + m) c) (n + m) (xs ++ news) → w.grownBy w' v.ownBlock → ((Value.slice A (n + m) c).ownBlock = v.ownBlock ∨ (Value.slice A (n + m) c).ownBlock = some w.heap.size) → S w' ∧ wpEarlyL P ops Q S tail r (a.put o.dst (.slice A (n + m) c)) w') :
    wpEarlyL P ops Q S tail ((false, j) :: r) a w := by
  refine earlyL_op hi (wanted_none hgd) ?_
  obtain ⟨v', w', hrun, h2, h3, h4⟩ := run_append (P := P) w base t o.type e z size bytes ht hinfo hzs hsz hby v n xs hown y m news hr h1 hbytes hbase
  obtain ⟨A, c, rfl, _⟩ := Sl.of_own h2
  unfold Oper.wp execOp
  simp only [ho, resolve, invoke, builtin, Sem.run_bind, Sem.run_pure, Result.andThen_ok, List.map_toArray, List.map_cons, List.map_nil, hs, hx, hrun]
  exact h A c w' h2 h3 h4
theorem objs_one {l : List Ob} (h : ∀ x ∈ l, Is47 x.cells.toArray) : ∀ u ∈ l.flatMap Ob.cells, u.oneCell' = true := by
  intro u hu
  obtain ⟨x, hx, hu⟩ := List.mem_flatMap.1 hu
  exact List.all_eq_true.1 (h x hx).2 u (by simpa using hu)
theorem info_obj : (Try.prog.info? 56).map (fun i => (i.zero, i.size, i.bytes)) = some (some (.agg Z47), 47, 640) := by kernel_rfl
set_option maxHeartbeats 8000000 in
set_option maxRecDepth 100000 in
theorem do8_del_ok (c : Code) (hc : IsRest c) (f : Nat → Value) (w : World) (p b n : Nat) (D : DataW Value) (most : Int) (now : Nat) (ev : Value) (evs : List Ev) (h : StIs w p b n D most now ev evs) (hnow : now < 1000000) (hevs : evs.length ≤ 1024) (mb q : Nat) (lv mev : Value) (mevs : List Ev) (hm : MdIs w mb lv now mev mevs) (hmevs : mevs.length < 100000) (ml : List Ob) (hml : ml.length < 1000) (hrow : w.ownsRow (mb + 1) 56 47 lv ml.length (ml.flatMap Ob.cells)) (hone : ∀ x ∈ ml, Is47 x.cells.toArray) (hap : Apart p b mb ev mev lv)
    (ak : Int) (o : Ob) (right : Bool) (i : Nat) (hk0 : ak ≠ 0) (hk1 : ak ≠ 1) (ho : o.Ok w) (hq : Bk w q 58 (actA ak o right)) (hqp : q ≠ p) (hqb : q ≠ b) (hqm : q ≠ mb) (hqe : ev.ownBlock ≠ some q) (hqme : mev.ownBlock ≠ some q) (hi : i < ml.length)
    (Lw : Array Value) (hLw : Is47 Lw) (vw : Nat) (hvw : Lw[2]? = some (.int .u64 vw)) (hval : valAt D (kOf o.kind o.name) (.agg Z47) = .agg Lw) (hvi : (ml[i]).version = (vw : Int)) (hk : 0 ≤ o.kind ∧ o.kind < 5) (hhas : Maps.has D (kOf o.kind o.name) = true) (hv : o.version = 0 ∨ o.version = (vw : Int)) :
    c.wp Try.prog (bodyPost Try.prog Try.f7 (ActOut w p b n (D.del (kOf o.kind o.name)) most now ev evs mb lv mev mevs (ml.eraseIdx i) ⟨2, o.kind, o.name, now + 1⟩ (fun _ _ _ _ => True))) ⟨doF p mb most q (i : Int) f, []⟩ w := by
  obtain ⟨a0, a1, a2, a3, a4, a5⟩ := actA_is ak o right
  have c0 : w.cell? ⟨q, 0, none⟩ = some (.int .i64 ak) := by rw [hq.cell]; exact a1
  have c1 : w.cell? ⟨q, 1, none⟩ = some (.int .i64 o.kind) := by rw [hq.cell]; exact a2
  have c2 : w.cell? ⟨q, 2, none⟩ = some (.string o.name) := by rw [hq.cell]; exact a3
  obtain ⟨vn, hvn⟩ : ∃ vn : Nat, vn = o.version.toNat := ⟨_, rfl⟩
  have hvo := version_nat ho.fit
  rw [← hvn] at hvo
  have c3 : w.cell? ⟨q, 3, none⟩ = some (.int .u64 (vn : Int)) := by rw [hq.cell, ← hvo]; exact a4
  have hvc : vn = 0 ∨ vn = vw := by omega
  have HD := Lib.hid (sdelete_any w p b n D most now ev evs h (by omega) hevs o.kind o.name ho.kind (Nat.le_trans ho.name reach_max) vn Lw hLw vw hvw hval)
  have hk0' : (ak != 0) = true := by simpa using hk0
  have hk1' : (ak != 1) = true := by simpa using hk1
  have HAP := Lib.hid hap
  have HM := Lib.hid (And.intro hm (And.intro hrow (And.intro hq (And.intro h (And.intro hone (And.intro hmevs hnow))))))
  have HO := Lib.hid ho
  have HQN := Lib.hid (And.intro hqp (And.intro hqb (And.intro hqm (And.intro hqe hqme))))
  have hlen : (ml.length : Int) < 1000 := by omega
  clear h hval hvw hLw ho hnow hevs hmevs hml a0 a1 a2 a3 a4 a5 hk0 hk1 hq hrow hm hone hvn hvo hv hqp hqb hqm hqe hqme
  obtain ⟨x, y, z, hlit⟩ := hc
  cases hlit
  unfold doF
  go_wp2_with fail
  refine HD.out.mono ?_
  rintro e w1 hst
  unfold DeleteSt at hst
  rw [if_neg (fun h => h hk), if_neg (by rw [hhas]; simp), if_neg (by omega)] at hst
  obtain ⟨ev1, rfl, S1, T1, E1⟩ := hst
  obtain ⟨hqp, hqb, hqm, hqe, hqme⟩ := HQN.out
  have hq1 := T1.bk HM.out.2.2.1 hqp hqb (fun e => hqe e.symm)
  have m1 := HM.out.1.t3 T1 hap
  have r1 := own_t3 HM.out.2.1 T1 hap.lp hap.lb hap.le
  have d1 : w1.cell? ⟨q, 1, none⟩ = some (.int .i64 o.kind) := by rw [hq1.cell]; exact (actA_is ak o right).2.2.1
  have d3 : w1.cell? ⟨q, 3, none⟩ = some (.int .u64 (vn : Int)) := by
    rw [hq1.cell, ← HM.out.2.2.1.cell]
    exact c3
  have dm : w1.cell? ⟨mb, 0, none⟩ = some lv := m1.1.cell 0
  obtain ⟨Al, cl, e1, hcl, _⟩ := id (Sl.of_own r1)
  have hlv := e1
  subst hlv
  obtain ⟨b2, o2, rfl, hb2, hadd2, hcell⟩ := Sl.row' (s := 47) (f := Ob.cells) ob_len (by omega) (Sl.of_own r1) i hi
  have dv := hcell 2 (.int .u64 (vw : Int)) (by rw [← hvi]; rfl)
  have hge : (0 : Int) ≤ (i : Int) := by omega
  have hge2 : ¬ (i : Int) < 0 := by omega
  have hgel : (i : Int) < (ml.length : Int) := by omega
  have H1 := Lib.hid (And.intro S1 (And.intro T1 (And.intro E1 (And.intro hq1 (And.intro m1 r1)))))
  have hk1 : ¬ o.kind < 0 := by omega
  have hk2 : ¬ 5 ≤ o.kind := by omega
  have hI := Lib.hid (And.intro hi (And.intro hcl hvi))
  clear hap S1 T1 E1 hq1 m1 r1 hk c0 c1 c2 c3 e1 hcell hqp hqb hqm hqe hqme
  go_wp2_with fail
  by_cases hz : vn = 0
  · have hx0 : ((vn : Int) != 0) = false := by rw [hz]; rfl
    clear hvc hz
    refine wp_region_sched [0, 1, 2, 3, 4, 5, 6, 7, 8, 9, 10, 11, 12, 13, 14, 15, 16, 17, 18] [] [] (fun i => !(i == 2 || i == 7 || i == 11 || i == 15)) (fun w' => w'.cell? ⟨q, 3, none⟩ = some (.int .u64 (vn : Int)) ∧ w'.cell? ⟨mb, 0, none⟩ = some (.slice (some ⟨b2, o2, none⟩) ml.length cl) ∧ w'.cell? ⟨b2, o2 + i * 47 + 2, none⟩ = some (.int .u64 (vw : Int))) (by kernel_rfl) (by kernel_rfl) (fun c a d v w h => by cases d <;> exact h) ⟨d3, dm, dv⟩ fun u0 Hu => ?_
    refine readsL_free (v := ?_) (by rfl) (by rfl) (fun w' => ?_) ?_
    rotate_left
    · go_simp
      with_reducible rfl
    simp only [Act.put, List.setIfInBounds_toArray, List.set_cons_zero, List.set_cons_succ, List.getElem_toArray, List.getElem_cons_succ, List.getElem_cons_zero]
    refine readsL_free (v := ?_) (by rfl) (by rfl) (fun w' => ?_) ?_
    rotate_left
    · go_simp
      with_reducible rfl
    simp only [Act.put, List.setIfInBounds_toArray, List.set_cons_zero, List.set_cons_succ, List.getElem_toArray, List.getElem_cons_succ, List.getElem_cons_zero]
    refine readsL_step (v := ?_) (by rfl) (by rfl) (by rfl) (fun w' hS => ?_) ?_
    rotate_left
    · have u1 := hS.1
      have u2 := hS.2.1
      have u3 := hS.2.2
      clear hS
      go_simp
      with_reducible rfl
    simp only [Act.put, List.setIfInBounds_toArray, List.set_cons_zero, List.set_cons_succ, List.getElem_toArray, List.getElem_cons_succ, List.getElem_cons_zero]
    refine readsL_free (v := ?_) (by rfl) (by rfl) (fun w' => ?_) ?_
    rotate_left
    · go_simp
      with_reducible rfl
    simp only [Act.put, List.setIfInBounds_toArray, List.set_cons_zero, List.set_cons_succ, List.getElem_toArray, List.getElem_cons_succ, List.getElem_cons_zero]
    refine readsL_free (v := ?_) (by rfl) (by rfl) (fun w' => ?_) ?_
    rotate_left
    · go_simp
      with_reducible rfl
    simp only [Act.put, List.setIfInBounds_toArray, List.set_cons_zero, List.set_cons_succ, List.getElem_toArray, List.getElem_cons_succ, List.getElem_cons_zero]
    refine readsL_pass (by rfl) (by rfl) ?_
    simp only [Act.put, List.setIfInBounds_toArray, List.set_cons_zero, List.set_cons_succ, List.getElem_toArray, List.getElem_cons_succ, List.getElem_cons_zero]
    refine readsL_pass (by rfl) (by rfl) ?_
    simp only [Act.put, List.setIfInBounds_toArray, List.set_cons_zero, List.set_cons_succ, List.getElem_toArray, List.getElem_cons_succ, List.getElem_cons_zero]
    refine readsL_pass (by rfl) (by rfl) ?_
    simp only [Act.put, List.setIfInBounds_toArray, List.set_cons_zero, List.set_cons_succ, List.getElem_toArray, List.getElem_cons_succ, List.getElem_cons_zero]
    refine readsL_pass (by rfl) (by rfl) ?_
    simp only [Act.put, List.setIfInBounds_toArray, List.set_cons_zero, List.set_cons_succ, List.getElem_toArray, List.getElem_cons_succ, List.getElem_cons_zero]
    refine readsL_pass (by rfl) (by rfl) ?_
    simp only [Act.put, List.setIfInBounds_toArray, List.set_cons_zero, List.set_cons_succ, List.getElem_toArray, List.getElem_cons_succ, List.getElem_cons_zero]
    refine readsL_pass (by rfl) (by rfl) ?_
    simp only [Act.put, List.setIfInBounds_toArray, List.set_cons_zero, List.set_cons_succ, List.getElem_toArray, List.getElem_cons_succ, List.getElem_cons_zero]
    refine readsL_pass (by rfl) (by rfl) ?_
    simp only [Act.put, List.setIfInBounds_toArray, List.set_cons_zero, List.set_cons_succ, List.getElem_toArray, List.getElem_cons_succ, List.getElem_cons_zero]
    refine readsL_pass (by rfl) (by rfl) ?_
    simp only [Act.put, List.setIfInBounds_toArray, List.set_cons_zero, List.set_cons_succ, List.getElem_toArray, List.getElem_cons_succ, List.getElem_cons_zero]
    refine readsL_pass (by rfl) (by rfl) ?_
    simp only [Act.put, List.setIfInBounds_toArray, List.set_cons_zero, List.set_cons_succ, List.getElem_toArray, List.getElem_cons_succ, List.getElem_cons_zero]
    refine readsL_pass (by rfl) (by rfl) ?_
    simp only [Act.put, List.setIfInBounds_toArray, List.set_cons_zero, List.set_cons_succ, List.getElem_toArray, List.getElem_cons_succ, List.getElem_cons_zero]
    refine readsL_pass (by rfl) (by rfl) ?_
    simp only [Act.put, List.setIfInBounds_toArray, List.set_cons_zero, List.set_cons_succ, List.getElem_toArray, List.getElem_cons_succ, List.getElem_cons_zero]
    refine readsL_pass (by rfl) (by rfl) ?_
    simp only [Act.put, List.setIfInBounds_toArray, List.set_cons_zero, List.set_cons_succ, List.getElem_toArray, List.getElem_cons_succ, List.getElem_cons_zero]
    refine readsL_free (v := ?_) (by rfl) (by rfl) (fun w' => ?_) ?_
    rotate_left
    · go_simp
      with_reducible rfl
    simp only [Act.put, List.setIfInBounds_toArray, List.set_cons_zero, List.set_cons_succ, List.getElem_toArray, List.getElem_cons_succ, List.getElem_cons_zero]
    refine readsL_free (v := ?_) (by rfl) (by rfl) (fun w' => ?_) ?_
    rotate_left
    · go_simp
      with_reducible rfl
    simp only [Act.put, List.setIfInBounds_toArray, List.set_cons_zero, List.set_cons_succ, List.getElem_toArray, List.getElem_cons_succ, List.getElem_cons_zero]
    refine readsL_nil ?_
    refine earlyL_nil ?_
    simp only [List.filterMap_nil]
    obtain ⟨S1, T1, E1, hq1, m1, r1⟩ := H1.out
    have bu : Below w1.heap.size w1 u0 := by
      rw [Hu.out]
      exact (Below.refl _ _).drew
    clear Hu d1 d3 dm dv
    have H2 := Lib.hid (And.intro (S1.below bu) (And.intro (T1.trans E1 (T3.of_below bu)) (And.intro E1 (And.intro (hq1.below' bu) (And.intro (m1.below bu) (own_below r1 bu))))))
    clear S1 T1 E1 hq1 m1 r1 bu H1
    go_wp2_with (refine wpl_loadat (by have := range_sub H2.out.2.2.2.1.range 1 47; rw [actA_ob] at this; exact this) rfl 56 (.tmp 116) rfl rfl _ Try.underlying56 rfl (by kernel_rfl) ?_)
    refine (note8_any u0 mb _ now mev mevs H2.out.2.2.2.2.1 (by have := HM.out.2.2.2.2.2.2; omega) HM.out.2.2.2.2.2.1 2 o.kind o.name o.version.toNat o.cells.toArray (obL_of HO.out)).mono ?_
    rintro e w2 ⟨mev', rfl, M2, TM2, EM2⟩
    have hap := HAP.out
    obtain ⟨S1, T1, E1, hq1, m1, r1⟩ := H2.out
    have hmbw : mb < w.heap.size := HM.out.1.1.lt
    have hmevw : ∀ g, mev.ownBlock = some g → g < w.heap.size := fun g hg => (HM.out.1.evGe hg).2
    have em1 : ev1.ownBlock ≠ some mb := fun e => by
      rcases E1 with h | ⟨g, hg, h⟩
      · exact hap.em (h ▸ e)
      · rw [h] at e; injection e with e; omega
    have ee1 : ∀ g, ev1.ownBlock = some g → mev.ownBlock ≠ some g := fun g hg e => by
      rcases E1 with h | ⟨g', hg', h⟩
      · exact hap.me g e (h ▸ hg)
      · rw [h] at hg; injection hg with hg; have := hmevw g e; omega
    have HEL := Lib.hid (show ∀ g, ev1.ownBlock = some g → g < u0.heap.size from fun g hg => (S1.evGe hg).2)
    have S2 := S1.t3m TM2 hap.pm hap.bm hap.mp hap.mbb em1 ee1
    have r2 := own_t3 r1 TM2 hap.lm hap.lm hap.lme
    have dm : w2.cell? ⟨mb, 0, none⟩ = some (.slice (some ⟨b2, o2, none⟩) ml.length cl) := M2.1.cell 0
    have hmw2 := M2.1.lt
    have hnl : i + (ml.length - (i + 1)) = ml.length - 1 := by have := hI.out.1; omega
    have g5 : (i : Int) + 1 < 1000 := by omega
    have g6 : (i : Int) + 1 ≤ (ml.length : Int) := by omega
    have g7 : (i : Int) + 1 ≤ (cl : Int) := by have := hI.out.2.1; omega
    have g8 : (ml.length : Int) ≤ (cl : Int) := by have := hI.out.2.1; omega
    have g9 : (i : Int) ≤ (cl : Int) := by omega
    have hwr := wrap_add i (by omega)
    have g10 : ((i + 1 : Nat) : Int) ≤ (ml.length : Int) := by omega
    have g11 : (0 : Int) ≤ (i : Int) + 1 := by omega
    have H3 := Lib.hid (And.intro S2 (And.intro T1 (And.intro E1 (And.intro TM2 (And.intro EM2 (And.intro M2 r2))))))
    have HEM := Lib.hid em1
    have HNL := Lib.hid hnl
    clear S1 T1 E1 hq1 m1 r1 hap hmbw hmevw em1 ee1 S2 r2 M2 TM2 EM2 H2 hnl
    go_wp2_with fail
    refine wp_region_sched [0, 2, 3, 4, 5, 6, 7, 9, 10, 11, 12, 13, 14, 15] [(false, 1), (false, 8), (false, 16)] [17, 18, 19] (fun i => !(i == 5 || i == 12)) (fun w' => w'.cell? ⟨mb, 0, none⟩ = some (.slice (some ⟨b2, o2, none⟩) ml.length cl)) (by kernel_rfl) (by kernel_rfl) (fun c a d v w h => by cases d <;> exact h) dm fun u1 Hu => ?_
    refine readsL_free (v := ?_) (by rfl) (by rfl) (fun w' => ?_) ?_
    rotate_left
    · go_simp
      with_reducible rfl
    simp only [Act.put, List.setIfInBounds_toArray, List.set_cons_zero, List.set_cons_succ, List.getElem_toArray, List.getElem_cons_succ, List.getElem_cons_zero]
    refine readsL_free (v := ?_) (by rfl) (by rfl) (fun w' => ?_) ?_
    rotate_left
    · go_simp
      with_reducible rfl
    simp only [Act.put, List.setIfInBounds_toArray, List.set_cons_zero, List.set_cons_succ, List.getElem_toArray, List.getElem_cons_succ, List.getElem_cons_zero]
    refine readsL_free (v := ?_) (by rfl) (by rfl) (fun w' => ?_) ?_
    rotate_left
    · go_simp
      with_reducible rfl
    simp only [Act.put, List.setIfInBounds_toArray, List.set_cons_zero, List.set_cons_succ, List.getElem_toArray, List.getElem_cons_succ, List.getElem_cons_zero]
    refine readsL_free (v := ?_) (by rfl) (by rfl) (fun w' => ?_) ?_
    rotate_left
    · go_simp
      with_reducible rfl
    simp only [Act.put, List.setIfInBounds_toArray, List.set_cons_zero, List.set_cons_succ, List.getElem_toArray, List.getElem_cons_succ, List.getElem_cons_zero]
    refine readsL_step (v := ?_) (by rfl) (by rfl) (by rfl) (fun w' hS => ?_) ?_
    rotate_left
    · have u1 := hS
      clear hS
      go_simp
      with_reducible rfl
    simp only [Act.put, List.setIfInBounds_toArray, List.set_cons_zero, List.set_cons_succ, List.getElem_toArray, List.getElem_cons_succ, List.getElem_cons_zero]
    refine readsL_free (v := ?_) (by rfl) (by rfl) (fun w' => ?_) ?_
    rotate_left
    · go_simp
      with_reducible rfl
    simp only [Act.put, List.setIfInBounds_toArray, List.set_cons_zero, List.set_cons_succ, List.getElem_toArray, List.getElem_cons_succ, List.getElem_cons_zero]
    refine readsL_free (v := ?_) (by rfl) (by rfl) (fun w' => ?_) ?_
    rotate_left
    · go_simp
      with_reducible rfl
    simp only [Act.put, List.setIfInBounds_toArray, List.set_cons_zero, List.set_cons_succ, List.getElem_toArray, List.getElem_cons_succ, List.getElem_cons_zero]
    refine readsL_free (v := ?_) (by rfl) (by rfl) (fun w' => ?_) ?_
    rotate_left
    · go_simp
      with_reducible rfl
    simp only [Act.put, List.setIfInBounds_toArray, List.set_cons_zero, List.set_cons_succ, List.getElem_toArray, List.getElem_cons_succ, List.getElem_cons_zero]
    refine readsL_free (v := ?_) (by rfl) (by rfl) (fun w' => ?_) ?_
    rotate_left
    · go_simp
      with_reducible rfl
    simp only [Act.put, List.setIfInBounds_toArray, List.set_cons_zero, List.set_cons_succ, List.getElem_toArray, List.getElem_cons_succ, List.getElem_cons_zero]
    refine readsL_free (v := ?_) (by rfl) (by rfl) (fun w' => ?_) ?_
    rotate_left
    · go_simp
      with_reducible rfl
    simp only [Act.put, List.setIfInBounds_toArray, List.set_cons_zero, List.set_cons_succ, List.getElem_toArray, List.getElem_cons_succ, List.getElem_cons_zero]
    refine readsL_step (v := ?_) (by rfl) (by rfl) (by rfl) (fun w' hS => ?_) ?_
    rotate_left
    · have u1 := hS
      clear hS
      go_simp
      with_reducible rfl
    simp only [Act.put, List.setIfInBounds_toArray, List.set_cons_zero, List.set_cons_succ, List.getElem_toArray, List.getElem_cons_succ, List.getElem_cons_zero]
    refine readsL_free (v := ?_) (by rfl) (by rfl) (fun w' => ?_) ?_
    rotate_left
    · go_simp
      with_reducible rfl
    simp only [Act.put, List.setIfInBounds_toArray, List.set_cons_zero, List.set_cons_succ, List.getElem_toArray, List.getElem_cons_succ, List.getElem_cons_zero]
    refine readsL_free (v := ?_) (by rfl) (by rfl) (fun w' => ?_) ?_
    rotate_left
    · go_simp
      with_reducible rfl
    simp only [Act.put, List.setIfInBounds_toArray, List.set_cons_zero, List.set_cons_succ, List.getElem_toArray, List.getElem_cons_succ, List.getElem_cons_zero]
    refine readsL_free (v := ?_) (by rfl) (by rfl) (fun w' => ?_) ?_
    rotate_left
    · go_simp
      with_reducible rfl
    simp only [Act.put, List.setIfInBounds_toArray, List.set_cons_zero, List.set_cons_succ, List.getElem_toArray, List.getElem_cons_succ, List.getElem_cons_zero]
    refine readsL_nil ?_
    have bu1 : Below w2.heap.size w2 u1 := by
      rw [Hu.out]
      exact (Below.refl _ _).drew
    obtain ⟨S2, T1, E1, TM2, EM2, M2, r2⟩ := H3.out
    obtain ⟨z, hz⟩ : ∃ z, z = u1.heap.size := ⟨_, rfl⟩
    have B3 : Below w2.heap.size w2 (u1.alloc (.cells #[] 56)) := bu1.alloc bu1.size _
    have k0 : Bk (u1.alloc (.cells #[] 56)) z 56 #[] := by rw [hz]; exact Bk.new u1 _ _
    have hzl : w2.heap.size ≤ z := by rw [hz]; exact bu1.size
    have hown0 : (u1.alloc (.cells #[] 56)).ownsRow w2.heap.size 56 47 (.slice (some ⟨z, 0, none⟩) 0 0) 0 [] := by
      have := k0.own (base := w2.heap.size) (size := 47) (n := 0) (c := 0) hzl (Nat.le_refl _) (by simp [maxLen]) rfl
      simpa using this
    refine earlyL_run (v := .slice (some ⟨z, 0, none⟩) 0 0) (w1 := u1.alloc (.cells #[] 56)) (by rfl) (by rfl) (by rw [hz]; go_simp) ((M2.below B3).1.cell 0) ?_
    simp only [Act.put, List.setIfInBounds_toArray, List.set_cons_zero, List.set_cons_succ, List.getElem_toArray, List.getElem_cons_succ, List.getElem_cons_zero]
    have hilt := hI.out.1
    have R3 := (Sl.of_own r2).below B3
    have tk := R3.take (k := i) (by omega)
    rw [take_flat Ob.cells ob_len] at tk
    have HONE := Lib.hid HM.out.2.2.2.2.1
    have H5 := Lib.hid (And.intro S2 (And.intro T1 (And.intro E1 (And.intro TM2 (And.intro EM2 (And.intro M2 r2))))))
    clear S2 T1 E1 TM2 EM2 M2 r2 hz R3 bu1 H3 Hu dm k0
    refine early_append (by rfl) rfl (.tmp 120) (.tmp 126) 30 rfl w2.heap.size 56 _ 47 640 Try.underlying30 info_obj rfl (by omega) (by omega) _ 0 [] rfl hown0 _ i _ rfl tk (objs_one fun x hx => HONE.out x (List.mem_of_mem_take hx)) (by omega) B3.size ?_
    intro A4 c4 w4 hown4 hg4 hb4
    have B4 := below_grown B3 hown0 hg4 B3.size (Nat.le_refl _)
    refine ⟨(H5.out.2.2.2.2.2.1.below B4).1.cell 0, ?_⟩
    clear B3 hown0 hg4 tk hb4
    have R4 := (Sl.of_own H5.out.2.2.2.2.2.2).below B4
    have dr := R4.drop (k := i + 1) (by omega)
    rw [drop_flat8 Ob.cells ob_len] at dr
    have hdv : Value.slice (if cl = i + 1 then some ⟨b2, o2, none⟩ else Option.map (fun x => x.add ((i + 1) * 47)) (some (⟨b2, o2, none⟩ : Addr))) (ml.length - (i + 1)) (cl - (i + 1)) = Value.slice (if cl = i + 1 then some ⟨b2, o2, none⟩ else some ⟨b2, o2 + (i + 1) * 47, none⟩) (ml.length - (i + 1)) (cl - (i + 1)) := by
      rw [Option.map_some, add_lit]
    rw [hdv] at dr
    clear hdv R4
    simp only [Act.put, List.setIfInBounds_toArray, List.set_cons_zero, List.set_cons_succ, List.getElem_toArray, List.getElem_cons_succ, List.getElem_cons_zero]
    refine early_append (by rfl) rfl (.tmp 127) (.tmp 134) 30 rfl w2.heap.size 56 _ 47 640 Try.underlying30 info_obj rfl (by omega) (by omega) _ (0 + i) _ rfl hown4 _ (ml.length - (i + 1)) _ rfl dr (objs_one fun x hx => HONE.out x (List.mem_of_mem_drop hx)) (by omega) B4.size ?_
    intro A5 c5 w5 hown5 hg5 hb5
    have B5 := below_grown B4 hown4 hg5 B4.size (Nat.le_refl _)
    refine ⟨(H5.out.2.2.2.2.2.1.below B5).1.cell 0, ?_⟩
    clear B4 hown4 hg5 dr hb5
    refine earlyL_nil ?_
    simp only [Act.put, List.setIfInBounds_toArray, List.set_cons_zero, List.set_cons_succ, List.getElem_toArray, List.getElem_cons_succ, List.getElem_cons_zero]
    simp only [List.filterMap_cons, List.filterMap_nil, List.getElem?_toArray, List.getElem?_cons_succ, List.getElem?_cons_zero]
    have M5 := H5.out.2.2.2.2.2.1.below B5
    have dm := M5.1.cell 0
    have d1 : w5.cell? ⟨mb, 1, none⟩ = some (.int .u64 ((now : Int) + 1)) := by
      have := M5.1.cell 1
      rw [this]
      simp
    have f0 := M5.1.frozen 0
    have H6 := Lib.hid (And.intro M5 (And.intro B5 hown5))
    clear M5 B5 hown5
    go_wp2_with fail
    all_goals
      go_ret
      obtain ⟨M5, B5, hown5⟩ := H6.out
      obtain ⟨S2, T1, E1, TM2, EM2, M2, r2⟩ := H5.out
      have hap := HAP.out
      have hilt := hI.out.1
      rw [Nat.zero_add] at hown5
      have hmw := M2.1.lt
      have S6 := (S2.below B5).t3m (ev := ev1) (mev := .slice none 0 0) (((T3.of_below (p := mb) (b := mb) (ev := .slice none 0 0) ((Below.refl w5.heap.size w5)))).setP 0 (.slice A5 (i + (ml.length - (i + 1))) c5)) hap.pm hap.bm (fun e => by cases e) (fun e => by cases e) HEM.out (fun _ _ e => by cases e)
      have k6 := M5.1.set 0 (.slice A5 (i + (ml.length - (i + 1))) c5)
      simp only [List.setIfInBounds_toArray, List.set_cons_zero, List.set_cons_succ] at k6
      have o6 := own_block (w' := w5.setCell ⟨mb, 0, none⟩ (.slice A5 (i + (ml.length - (i + 1))) c5)) M5.2 (fun g hg => Below.heap_setCell _ _ _ _ (by have := (M5.2.lt g hg).1; simp; omega))
      have r6 := own_mono (b2 := mb + 1) (own_block (w' := w5.setCell ⟨mb, 0, none⟩ (.slice A5 (i + (ml.length - (i + 1))) c5)) hown5 (fun g hg => Below.heap_setCell _ _ _ _ (by have := (hown5.lt g hg).1; simp; omega))) (by omega)
      have hle : i + (ml.length - (i + 1)) = (ml.eraseIdx i).length := by rw [List.length_eraseIdx]; simp [hilt]; omega
      rw [List.nil_append, ← List.flatMap_append, ← List.eraseIdx_eq_take_drop_succ] at r6
      have F1 : Tch (PF p b mb ev mev (.slice (some ⟨b2, o2, none⟩) ml.length cl)) w u0 := tch_t3 T1 fun j hj => ⟨fun e => hj (.inl e), fun e => hj (.inr (.inl e)), fun e => hj (.inr (.inr (.inr (.inl e.symm))))⟩
      have F2 : Tch (PF p b mb ev mev (.slice (some ⟨b2, o2, none⟩) ml.length cl)) u0 w2 := tch_t3 TM2 fun j hj => ⟨fun e => hj (.inr (.inr (.inl e))), fun e => hj (.inr (.inr (.inl e))), fun e => hj (.inr (.inr (.inr (.inr (.inl e.symm)))))⟩
      have F6 := tch_set ((F1.trans F2 (fun _ _ h => h)).trans (Tch.of_below (F := PF p b mb ev mev (.slice (some ⟨b2, o2, none⟩) ml.length cl)) B5) (fun _ _ h => h)) (g := mb) (k := 0) (.inr (.inr (.inl rfl))) (.slice A5 (i + (ml.length - (i + 1))) c5)
      refine ⟨rfl, ev1, mev', .slice A5 (i + (ml.length - (i + 1))) c5, trivial, S6, ⟨k6, o6⟩, ?_, F6, E1, EvTo.trans T1.size (EvTo.refl _ _) EM2, fun g hg => .inl ?_, Apart.next hap T1.size TM2.size HM.out.2.2.2.1.2.1.lt HM.out.2.2.2.1.2.2.1.lt HM.out.1.1.lt (fun g hg => (HM.out.2.2.2.1.evGe hg).2) (fun g hg => (HM.out.1.evGe hg).2) (fun g hg => (HM.out.2.1.lt g hg).2) (E1.alt HEL.out) (EM2.alt fun g hg => (M2.evGe hg).2) (fun g hg => .inr (hown5.lt g hg).1)⟩
      · rw [← hle]
        exact r6
      · have h1 := (hown5.lt g hg).1
        have h2 := T1.size
        have h3 := TM2.size
        omega
  · have hx0 : ((vn : Int) != 0) = true := by
      have : ¬ (vn : Int) = 0 := by omega
      simpa using this
    have hx1 : ((vn : Int) != (vw : Int)) = false := by
      have : vn = vw := hvc.resolve_left hz
      rw [this]
      simp
    clear hvc hz
    refine wp_region_sched [0, 1, 2, 3, 4, 5, 6, 7, 8, 9, 10, 11, 12, 13, 14, 15, 16, 17, 18] [] [] (fun i => !(i == 2 || i == 7 || i == 11 || i == 15)) (fun w' => w'.cell? ⟨q, 3, none⟩ = some (.int .u64 (vn : Int)) ∧ w'.cell? ⟨mb, 0, none⟩ = some (.slice (some ⟨b2, o2, none⟩) ml.length cl) ∧ w'.cell? ⟨b2, o2 + i * 47 + 2, none⟩ = some (.int .u64 (vw : Int))) (by kernel_rfl) (by kernel_rfl) (fun c a d v w h => by cases d <;> exact h) ⟨d3, dm, dv⟩ fun u0 Hu => ?_
    refine readsL_free (v := ?_) (by rfl) (by rfl) (fun w' => ?_) ?_
    rotate_left
    · go_simp
      with_reducible rfl
    simp only [Act.put, List.setIfInBounds_toArray, List.set_cons_zero, List.set_cons_succ, List.getElem_toArray, List.getElem_cons_succ, List.getElem_cons_zero]
    refine readsL_free (v := ?_) (by rfl) (by rfl) (fun w' => ?_) ?_
    rotate_left
    · go_simp
      with_reducible rfl
    simp only [Act.put, List.setIfInBounds_toArray, List.set_cons_zero, List.set_cons_succ, List.getElem_toArray, List.getElem_cons_succ, List.getElem_cons_zero]
    refine readsL_step (v := ?_) (by rfl) (by rfl) (by rfl) (fun w' hS => ?_) ?_
    rotate_left
    · have u1 := hS.1
      have u2 := hS.2.1
      have u3 := hS.2.2
      clear hS
      go_simp
      with_reducible rfl
    simp only [Act.put, List.setIfInBounds_toArray, List.set_cons_zero, List.set_cons_succ, List.getElem_toArray, List.getElem_cons_succ, List.getElem_cons_zero]
    refine readsL_free (v := ?_) (by rfl) (by rfl) (fun w' => ?_) ?_
    rotate_left
    · go_simp
      with_reducible rfl
    simp only [Act.put, List.setIfInBounds_toArray, List.set_cons_zero, List.set_cons_succ, List.getElem_toArray, List.getElem_cons_succ, List.getElem_cons_zero]
    refine readsL_free (v := ?_) (by rfl) (by rfl) (fun w' => ?_) ?_
    rotate_left
    · go_simp
      with_reducible rfl
    simp only [Act.put, List.setIfInBounds_toArray, List.set_cons_zero, List.set_cons_succ, List.getElem_toArray, List.getElem_cons_succ, List.getElem_cons_zero]
    refine readsL_free (v := ?_) (by rfl) (by rfl) (fun w' => ?_) ?_
    rotate_left
    · go_simp
      with_reducible rfl
    simp only [Act.put, List.setIfInBounds_toArray, List.set_cons_zero, List.set_cons_succ, List.getElem_toArray, List.getElem_cons_succ, List.getElem_cons_zero]
    refine readsL_free (v := ?_) (by rfl) (by rfl) (fun w' => ?_) ?_
    rotate_left
    · go_simp
      with_reducible rfl
    simp only [Act.put, List.setIfInBounds_toArray, List.set_cons_zero, List.set_cons_succ, List.getElem_toArray, List.getElem_cons_succ, List.getElem_cons_zero]
    refine readsL_step (v := ?_) (by rfl) (by rfl) (by rfl) (fun w' hS => ?_) ?_
    rotate_left
    · have u1 := hS.1
      have u2 := hS.2.1
      have u3 := hS.2.2
      clear hS
      go_simp
      with_reducible rfl
    simp only [Act.put, List.setIfInBounds_toArray, List.set_cons_zero, List.set_cons_succ, List.getElem_toArray, List.getElem_cons_succ, List.getElem_cons_zero]
    refine readsL_free (v := ?_) (by rfl) (by rfl) (fun w' => ?_) ?_
    rotate_left
    · go_simp
      with_reducible rfl
    simp only [Act.put, List.setIfInBounds_toArray, List.set_cons_zero, List.set_cons_succ, List.getElem_toArray, List.getElem_cons_succ, List.getElem_cons_zero]
    refine readsL_free (v := ?_) (by rfl) (by rfl) (fun w' => ?_) ?_
    rotate_left
    · go_simp
      with_reducible rfl
    simp only [Act.put, List.setIfInBounds_toArray, List.set_cons_zero, List.set_cons_succ, List.getElem_toArray, List.getElem_cons_succ, List.getElem_cons_zero]
    refine readsL_free (v := ?_) (by rfl) (by rfl) (fun w' => ?_) ?_
    rotate_left
    · go_simp
      with_reducible rfl
    simp only [Act.put, List.setIfInBounds_toArray, List.set_cons_zero, List.set_cons_succ, List.getElem_toArray, List.getElem_cons_succ, List.getElem_cons_zero]
    refine readsL_step (v := ?_) (by rfl) (by rfl) (by rfl) (fun w' hS => ?_) ?_
    rotate_left
    · have u1 := hS.1
      have u2 := hS.2.1
      have u3 := hS.2.2
      clear hS
      go_simp
      with_reducible rfl
    simp only [Act.put, List.setIfInBounds_toArray, List.set_cons_zero, List.set_cons_succ, List.getElem_toArray, List.getElem_cons_succ, List.getElem_cons_zero]
    refine readsL_free (v := ?_) (by rfl) (by rfl) (fun w' => ?_) ?_
    rotate_left
    · go_simp
      with_reducible rfl
    simp only [Act.put, List.setIfInBounds_toArray, List.set_cons_zero, List.set_cons_succ, List.getElem_toArray, List.getElem_cons_succ, List.getElem_cons_zero]
    refine readsL_free (v := ?_) (by rfl) (by rfl) (fun w' => ?_) ?_
    rotate_left
    · go_simp
      with_reducible rfl
    simp only [Act.put, List.setIfInBounds_toArray, List.set_cons_zero, List.set_cons_succ, List.getElem_toArray, List.getElem_cons_succ, List.getElem_cons_zero]
    refine readsL_free (v := ?_) (by rfl) (by rfl) (fun w' => ?_) ?_
    rotate_left
    · go_simp
      with_reducible rfl
    simp only [Act.put, List.setIfInBounds_toArray, List.set_cons_zero, List.set_cons_succ, List.getElem_toArray, List.getElem_cons_succ, List.getElem_cons_zero]
    refine readsL_step (v := ?_) (by rfl) (by rfl) (by rfl) (fun w' hS => ?_) ?_
    rotate_left
    · have u1 := hS.1
      have u2 := hS.2.1
      have u3 := hS.2.2
      clear hS
      go_simp
      with_reducible rfl
    simp only [Act.put, List.setIfInBounds_toArray, List.set_cons_zero, List.set_cons_succ, List.getElem_toArray, List.getElem_cons_succ, List.getElem_cons_zero]
    refine readsL_free (v := ?_) (by rfl) (by rfl) (fun w' => ?_) ?_
    rotate_left
    · go_simp
      with_reducible rfl
    simp only [Act.put, List.setIfInBounds_toArray, List.set_cons_zero, List.set_cons_succ, List.getElem_toArray, List.getElem_cons_succ, List.getElem_cons_zero]
    refine readsL_free (v := ?_) (by rfl) (by rfl) (fun w' => ?_) ?_
    rotate_left
    · go_simp
      with_reducible rfl
    simp only [Act.put, List.setIfInBounds_toArray, List.set_cons_zero, List.set_cons_succ, List.getElem_toArray, List.getElem_cons_succ, List.getElem_cons_zero]
    refine readsL_free (v := ?_) (by rfl) (by rfl) (fun w' => ?_) ?_
    rotate_left
    · go_simp
      with_reducible rfl
    simp only [Act.put, List.setIfInBounds_toArray, List.set_cons_zero, List.set_cons_succ, List.getElem_toArray, List.getElem_cons_succ, List.getElem_cons_zero]
    refine readsL_nil ?_
    refine earlyL_nil ?_
    simp only [List.filterMap_nil]
    obtain ⟨S1, T1, E1, hq1, m1, r1⟩ := H1.out
    have bu : Below w1.heap.size w1 u0 := by
      rw [Hu.out]
      exact (Below.refl _ _).drew
    clear Hu d1 d3 dm dv
    have H2 := Lib.hid (And.intro (S1.below bu) (And.intro (T1.trans E1 (T3.of_below bu)) (And.intro E1 (And.intro (hq1.below' bu) (And.intro (m1.below bu) (own_below r1 bu))))))
    clear S1 T1 E1 hq1 m1 r1 bu H1
    go_wp2_with (refine wpl_loadat (by have := range_sub H2.out.2.2.2.1.range 1 47; rw [actA_ob] at this; exact this) rfl 56 (.tmp 116) rfl rfl _ Try.underlying56 rfl (by kernel_rfl) ?_)
    refine (note8_any u0 mb _ now mev mevs H2.out.2.2.2.2.1 (by have := HM.out.2.2.2.2.2.2; omega) HM.out.2.2.2.2.2.1 2 o.kind o.name o.version.toNat o.cells.toArray (obL_of HO.out)).mono ?_
    rintro e w2 ⟨mev', rfl, M2, TM2, EM2⟩
    have hap := HAP.out
    obtain ⟨S1, T1, E1, hq1, m1, r1⟩ := H2.out
    have hmbw : mb < w.heap.size := HM.out.1.1.lt
    have hmevw : ∀ g, mev.ownBlock = some g → g < w.heap.size := fun g hg => (HM.out.1.evGe hg).2
    have em1 : ev1.ownBlock ≠ some mb := fun e => by
      rcases E1 with h | ⟨g, hg, h⟩
      · exact hap.em (h ▸ e)
      · rw [h] at e; injection e with e; omega
    have ee1 : ∀ g, ev1.ownBlock = some g → mev.ownBlock ≠ some g := fun g hg e => by
      rcases E1 with h | ⟨g', hg', h⟩
      · exact hap.me g e (h ▸ hg)
      · rw [h] at hg; injection hg with hg; have := hmevw g e; omega
    have HEL := Lib.hid (show ∀ g, ev1.ownBlock = some g → g < u0.heap.size from fun g hg => (S1.evGe hg).2)
    have S2 := S1.t3m TM2 hap.pm hap.bm hap.mp hap.mbb em1 ee1
    have r2 := own_t3 r1 TM2 hap.lm hap.lm hap.lme
    have dm : w2.cell? ⟨mb, 0, none⟩ = some (.slice (some ⟨b2, o2, none⟩) ml.length cl) := M2.1.cell 0
    have hmw2 := M2.1.lt
    have hnl : i + (ml.length - (i + 1)) = ml.length - 1 := by have := hI.out.1; omega
    have g5 : (i : Int) + 1 < 1000 := by omega
    have g6 : (i : Int) + 1 ≤ (ml.length : Int) := by omega
    have g7 : (i : Int) + 1 ≤ (cl : Int) := by have := hI.out.2.1; omega
    have g8 : (ml.length : Int) ≤ (cl : Int) := by have := hI.out.2.1; omega
    have g9 : (i : Int) ≤ (cl : Int) := by omega
    have hwr := wrap_add i (by omega)
    have g10 : ((i + 1 : Nat) : Int) ≤ (ml.length : Int) := by omega
    have g11 : (0 : Int) ≤ (i : Int) + 1 := by omega
    have H3 := Lib.hid (And.intro S2 (And.intro T1 (And.intro E1 (And.intro TM2 (And.intro EM2 (And.intro M2 r2))))))
    have HEM := Lib.hid em1
    have HNL := Lib.hid hnl
    clear S1 T1 E1 hq1 m1 r1 hap hmbw hmevw em1 ee1 S2 r2 M2 TM2 EM2 H2 hnl
    go_wp2_with fail
    refine wp_region_sched [0, 2, 3, 4, 5, 6, 7, 9, 10, 11, 12, 13, 14, 15] [(false, 1), (false, 8), (false, 16)] [17, 18, 19] (fun i => !(i == 5 || i == 12)) (fun w' => w'.cell? ⟨mb, 0, none⟩ = some (.slice (some ⟨b2, o2, none⟩) ml.length cl)) (by kernel_rfl) (by kernel_rfl) (fun c a d v w h => by cases d <;> exact h) dm fun u1 Hu => ?_
    refine readsL_free (v := ?_) (by rfl) (by rfl) (fun w' => ?_) ?_
    rotate_left
    · go_simp
      with_reducible rfl
    simp only [Act.put, List.setIfInBounds_toArray, List.set_cons_zero, List.set_cons_succ, List.getElem_toArray, List.getElem_cons_succ, List.getElem_cons_zero]
    refine readsL_free (v := ?_) (by rfl) (by rfl) (fun w' => ?_) ?_
    rotate_left
    · go_simp
      with_reducible rfl
    simp only [Act.put, List.setIfInBounds_toArray, List.set_cons_zero, List.set_cons_succ, List.getElem_toArray, List.getElem_cons_succ, List.getElem_cons_zero]
    refine readsL_free (v := ?_) (by rfl) (by rfl) (fun w' => ?_) ?_
    rotate_left
    · go_simp
      with_reducible rfl
    simp only [Act.put, List.setIfInBounds_toArray, List.set_cons_zero, List.set_cons_succ, List.getElem_toArray, List.getElem_cons_succ, List.getElem_cons_zero]
    refine readsL_free (v := ?_) (by rfl) (by rfl) (fun w' => ?_) ?_
    rotate_left
    · go_simp
      with_reducible rfl
    simp only [Act.put, List.setIfInBounds_toArray, List.set_cons_zero, List.set_cons_succ, List.getElem_toArray, List.getElem_cons_succ, List.getElem_cons_zero]
    refine readsL_step (v := ?_) (by rfl) (by rfl) (by rfl) (fun w' hS => ?_) ?_
    rotate_left
    · have u1 := hS
      clear hS
      go_simp
      with_reducible rfl
    simp only [Act.put, List.setIfInBounds_toArray, List.set_cons_zero, List.set_cons_succ, List.getElem_toArray, List.getElem_cons_succ, List.getElem_cons_zero]
    refine readsL_free (v := ?_) (by rfl) (by rfl) (fun w' => ?_) ?_
    rotate_left
    · go_simp
      with_reducible rfl
    simp only [Act.put, List.setIfInBounds_toArray, List.set_cons_zero, List.set_cons_succ, List.getElem_toArray, List.getElem_cons_succ, List.getElem_cons_zero]
    refine readsL_free (v := ?_) (by rfl) (by rfl) (fun w' => ?_) ?_
    rotate_left
    · go_simp
      with_reducible rfl
    simp only [Act.put, List.setIfInBounds_toArray, List.set_cons_zero, List.set_cons_succ, List.getElem_toArray, List.getElem_cons_succ, List.getElem_cons_zero]
    refine readsL_free (v := ?_) (by rfl) (by rfl) (fun w' => ?_) ?_
    rotate_left
    · go_simp
      with_reducible rfl
    simp only [Act.put, List.setIfInBounds_toArray, List.set_cons_zero, List.set_cons_succ, List.getElem_toArray, List.getElem_cons_succ, List.getElem_cons_zero]
    refine readsL_free (v := ?_) (by rfl) (by rfl) (fun w' => ?_) ?_
    rotate_left
    · go_simp
      with_reducible rfl
    simp only [Act.put, List.setIfInBounds_toArray, List.set_cons_zero, List.set_cons_succ, List.getElem_toArray, List.getElem_cons_succ, List.getElem_cons_zero]
    refine readsL_free (v := ?_) (by rfl) (by rfl) (fun w' => ?_) ?_
    rotate_left
    · go_simp
      with_reducible rfl
    simp only [Act.put, List.setIfInBounds_toArray, List.set_cons_zero, List.set_cons_succ, List.getElem_toArray, List.getElem_cons_succ, List.getElem_cons_zero]
    refine readsL_step (v := ?_) (by rfl) (by rfl) (by rfl) (fun w' hS => ?_) ?_
    rotate_left
    · have u1 := hS
      clear hS
      go_simp
      with_reducible rfl
    simp only [Act.put, List.setIfInBounds_toArray, List.set_cons_zero, List.set_cons_succ, List.getElem_toArray, List.getElem_cons_succ, List.getElem_cons_zero]
    refine readsL_free (v := ?_) (by rfl) (by rfl) (fun w' => ?_) ?_
    rotate_left
    · go_simp
      with_reducible rfl
    simp only [Act.put, List.setIfInBounds_toArray, List.set_cons_zero, List.set_cons_succ, List.getElem_toArray, List.getElem_cons_succ, List.getElem_cons_zero]
    refine readsL_free (v := ?_) (by rfl) (by rfl) (fun w' => ?_) ?_
    rotate_left
    · go_simp
      with_reducible rfl
    simp only [Act.put, List.setIfInBounds_toArray, List.set_cons_zero, List.set_cons_succ, List.getElem_toArray, List.getElem_cons_succ, List.getElem_cons_zero]
    refine readsL_free (v := ?_) (by rfl) (by rfl) (fun w' => ?_) ?_
    rotate_left
    · go_simp
      with_reducible rfl
    simp only [Act.put, List.setIfInBounds_toArray, List.set_cons_zero, List.set_cons_succ, List.getElem_toArray, List.getElem_cons_succ, List.getElem_cons_zero]
    refine readsL_nil ?_
    have bu1 : Below w2.heap.size w2 u1 := by
      rw [Hu.out]
      exact (Below.refl _ _).drew
    obtain ⟨S2, T1, E1, TM2, EM2, M2, r2⟩ := H3.out
    obtain ⟨z, hz⟩ : ∃ z, z = u1.heap.size := ⟨_, rfl⟩
    have B3 : Below w2.heap.size w2 (u1.alloc (.cells #[] 56)) := bu1.alloc bu1.size _
    have k0 : Bk (u1.alloc (.cells #[] 56)) z 56 #[] := by rw [hz]; exact Bk.new u1 _ _
    have hzl : w2.heap.size ≤ z := by rw [hz]; exact bu1.size
    have hown0 : (u1.alloc (.cells #[] 56)).ownsRow w2.heap.size 56 47 (.slice (some ⟨z, 0, none⟩) 0 0) 0 [] := by
      have := k0.own (base := w2.heap.size) (size := 47) (n := 0) (c := 0) hzl (Nat.le_refl _) (by simp [maxLen]) rfl
      simpa using this
    refine earlyL_run (v := .slice (some ⟨z, 0, none⟩) 0 0) (w1 := u1.alloc (.cells #[] 56)) (by rfl) (by rfl) (by rw [hz]; go_simp) ((M2.below B3).1.cell 0) ?_
    simp only [Act.put, List.setIfInBounds_toArray, List.set_cons_zero, List.set_cons_succ, List.getElem_toArray, List.getElem_cons_succ, List.getElem_cons_zero]
    have hilt := hI.out.1
    have R3 := (Sl.of_own r2).below B3
    have tk := R3.take (k := i) (by omega)
    rw [take_flat Ob.cells ob_len] at tk
    have HONE := Lib.hid HM.out.2.2.2.2.1
    have H5 := Lib.hid (And.intro S2 (And.intro T1 (And.intro E1 (And.intro TM2 (And.intro EM2 (And.intro M2 r2))))))
    clear S2 T1 E1 TM2 EM2 M2 r2 hz R3 bu1 H3 Hu dm k0
    refine early_append (by rfl) rfl (.tmp 120) (.tmp 126) 30 rfl w2.heap.size 56 _ 47 640 Try.underlying30 info_obj rfl (by omega) (by omega) _ 0 [] rfl hown0 _ i _ rfl tk (objs_one fun x hx => HONE.out x (List.mem_of_mem_take hx)) (by omega) B3.size ?_
    intro A4 c4 w4 hown4 hg4 hb4
    have B4 := below_grown B3 hown0 hg4 B3.size (Nat.le_refl _)
    refine ⟨(H5.out.2.2.2.2.2.1.below B4).1.cell 0, ?_⟩
    clear B3 hown0 hg4 tk hb4
    have R4 := (Sl.of_own H5.out.2.2.2.2.2.2).below B4
    have dr := R4.drop (k := i + 1) (by omega)
    rw [drop_flat8 Ob.cells ob_len] at dr
    have hdv : Value.slice (if cl = i + 1 then some ⟨b2, o2, none⟩ else Option.map (fun x => x.add ((i + 1) * 47)) (some (⟨b2, o2, none⟩ : Addr))) (ml.length - (i + 1)) (cl - (i + 1)) = Value.slice (if cl = i + 1 then some ⟨b2, o2, none⟩ else some ⟨b2, o2 + (i + 1) * 47, none⟩) (ml.length - (i + 1)) (cl - (i + 1)) := by
      rw [Option.map_some, add_lit]
    rw [hdv] at dr
    clear hdv R4
    simp only [Act.put, List.setIfInBounds_toArray, List.set_cons_zero, List.set_cons_succ, List.getElem_toArray, List.getElem_cons_succ, List.getElem_cons_zero]
    refine early_append (by rfl) rfl (.tmp 127) (.tmp 134) 30 rfl w2.heap.size 56 _ 47 640 Try.underlying30 info_obj rfl (by omega) (by omega) _ (0 + i) _ rfl hown4 _ (ml.length - (i + 1)) _ rfl dr (objs_one fun x hx => HONE.out x (List.mem_of_mem_drop hx)) (by omega) B4.size ?_
    intro A5 c5 w5 hown5 hg5 hb5
    have B5 := below_grown B4 hown4 hg5 B4.size (Nat.le_refl _)
    refine ⟨(H5.out.2.2.2.2.2.1.below B5).1.cell 0, ?_⟩
    clear B4 hown4 hg5 dr hb5
    refine earlyL_nil ?_
    simp only [Act.put, List.setIfInBounds_toArray, List.set_cons_zero, List.set_cons_succ, List.getElem_toArray, List.getElem_cons_succ, List.getElem_cons_zero]
    simp only [List.filterMap_cons, List.filterMap_nil, List.getElem?_toArray, List.getElem?_cons_succ, List.getElem?_cons_zero]
    have M5 := H5.out.2.2.2.2.2.1.below B5
    have dm := M5.1.cell 0
    have d1 : w5.cell? ⟨mb, 1, none⟩ = some (.int .u64 ((now : Int) + 1)) := by
      have := M5.1.cell 1
      rw [this]
      simp
    have f0 := M5.1.frozen 0
    have H6 := Lib.hid (And.intro M5 (And.intro B5 hown5))
    clear M5 B5 hown5
    go_wp2_with fail
    all_goals
      go_ret
      obtain ⟨M5, B5, hown5⟩ := H6.out
      obtain ⟨S2, T1, E1, TM2, EM2, M2, r2⟩ := H5.out
      have hap := HAP.out
      have hilt := hI.out.1
      rw [Nat.zero_add] at hown5
      have hmw := M2.1.lt
      have S6 := (S2.below B5).t3m (ev := ev1) (mev := .slice none 0 0) (((T3.of_below (p := mb) (b := mb) (ev := .slice none 0 0) ((Below.refl w5.heap.size w5)))).setP 0 (.slice A5 (i + (ml.length - (i + 1))) c5)) hap.pm hap.bm (fun e => by cases e) (fun e => by cases e) HEM.out (fun _ _ e => by cases e)
      have k6 := M5.1.set 0 (.slice A5 (i + (ml.length - (i + 1))) c5)
      simp only [List.setIfInBounds_toArray, List.set_cons_zero, List.set_cons_succ] at k6
      have o6 := own_block (w' := w5.setCell ⟨mb, 0, none⟩ (.slice A5 (i + (ml.length - (i + 1))) c5)) M5.2 (fun g hg => Below.heap_setCell _ _ _ _ (by have := (M5.2.lt g hg).1; simp; omega))
      have r6 := own_mono (b2 := mb + 1) (own_block (w' := w5.setCell ⟨mb, 0, none⟩ (.slice A5 (i + (ml.length - (i + 1))) c5)) hown5 (fun g hg => Below.heap_setCell _ _ _ _ (by have := (hown5.lt g hg).1; simp; omega))) (by omega)
      have hle : i + (ml.length - (i + 1)) = (ml.eraseIdx i).length := by rw [List.length_eraseIdx]; simp [hilt]; omega
      rw [List.nil_append, ← List.flatMap_append, ← List.eraseIdx_eq_take_drop_succ] at r6
      have F1 : Tch (PF p b mb ev mev (.slice (some ⟨b2, o2, none⟩) ml.length cl)) w u0 := tch_t3 T1 fun j hj => ⟨fun e => hj (.inl e), fun e => hj (.inr (.inl e)), fun e => hj (.inr (.inr (.inr (.inl e.symm))))⟩
      have F2 : Tch (PF p b mb ev mev (.slice (some ⟨b2, o2, none⟩) ml.length cl)) u0 w2 := tch_t3 TM2 fun j hj => ⟨fun e => hj (.inr (.inr (.inl e))), fun e => hj (.inr (.inr (.inl e))), fun e => hj (.inr (.inr (.inr (.inr (.inl e.symm)))))⟩
      have F6 := tch_set ((F1.trans F2 (fun _ _ h => h)).trans (Tch.of_below (F := PF p b mb ev mev (.slice (some ⟨b2, o2, none⟩) ml.length cl)) B5) (fun _ _ h => h)) (g := mb) (k := 0) (.inr (.inr (.inl rfl))) (.slice A5 (i + (ml.length - (i + 1))) c5)
      refine ⟨rfl, ev1, mev', .slice A5 (i + (ml.length - (i + 1))) c5, trivial, S6, ⟨k6, o6⟩, ?_, F6, E1, EvTo.trans T1.size (EvTo.refl _ _) EM2, fun g hg => .inl ?_, Apart.next hap T1.size TM2.size HM.out.2.2.2.1.2.1.lt HM.out.2.2.2.1.2.2.1.lt HM.out.1.1.lt (fun g hg => (HM.out.2.2.2.1.evGe hg).2) (fun g hg => (HM.out.1.evGe hg).2) (fun g hg => (HM.out.2.1.lt g hg).2) (E1.alt HEL.out) (EM2.alt fun g hg => (M2.evGe hg).2) (fun g hg => .inr (hown5.lt g hg).1)⟩
      · rw [← hle]
        exact r6
      · have h1 := (hown5.lt g hg).1
        have h2 := T1.size
        have h3 := TM2.size
        omega
end Go.Proofs.Ytlhaiflebigdlaa
end
section
namespace Go.Proofs.Ytlhaiflebigdlaa
open Go.RowKit Go.Proofs.Mem
set_option linter.unusedVariables false
set_option linter.unusedSimpArgs false
set_option maxHeartbeats 8000000 in
set_option maxRecDepth 100000 in
theorem do8_cr_bad (c : Code) (hc : IsRest c) (f : Nat → Value) (w : World) (p b n : Nat) (D : DataW Value) (most : Int) (now : Nat) (ev : Value) (evs : List Ev) (h : StIs w p b n D most now ev evs) (hN : n < maxLen) (hnow : now < 1000000) (hevs : evs.length ≤ 1024) (mb q : Nat) (ak : Int) (o : Ob) (right : Bool) (fi : Int) (hak : ak = 0) (ho : o.Ok w)
    (hq : Bk w q 58 (actA ak o right)) (Lw : Array Value) (hLw : Is47 Lw) (hval : valAt D (kOf o.kind o.name) (.agg Z47) = .agg Lw) (hbad : errO o.dflt ≠ 0) :
    c.wp Try.prog (bodyPost Try.prog Try.f7 fun e w' => e = .returned (.bool true) ∧ Below w.heap.size w w') ⟨doF p mb most q fi f, []⟩ w := by
  obtain ⟨a0, a1, a2, a3, a4, a5⟩ := actA_is ak o right
  have c0 : w.cell? ⟨q, 0, none⟩ = some (.int .i64 ak) := by rw [hq.cell]; exact a1
  have HQ := Lib.hid hq
  have HS := Lib.hid (And.intro h (And.intro ho (And.intro hLw (And.intro hval hbad))))
  have HN := Lib.hid (And.intro hN (And.intro hnow hevs))
  have hr : w.rangeAt q 1 o.cells := by
    have := range_sub hq.range 1 47
    rwa [actA_ob] at this
  have HR := Lib.hid hr
  have HU := Lib.hid (Try.underlying56)
  clear h hval hLw ho hq a0 a1 a2 a3 a4 a5 hbad hN hnow hevs hr
  subst hak
  obtain ⟨x, y, z, hlit⟩ := hc
  cases hlit
  unfold doF
  go_wp2_with (refine wpl_loadat HR.out rfl 56 (.tmp 148) rfl rfl _ HU.out rfl (by kernel_rfl) ?_)
  refine (vdefault_any o w HS.out.2.1).mono ?_
  rintro e w1 ⟨V, rfl, hn, b1⟩
  obtain ⟨L, hL⟩ : ∃ L : Array Value, L = (o.dflt.reval V).cells.toArray := ⟨_, rfl⟩
  have hok := HS.out.2.1.fit.dflt.ok hn
  have hi := cells_is _ hok
  rw [← hL] at hi ⊢
  have kz := Bk.new w1 56 Z47
  have hzz : Z47.size = L.size := hi.1.symm
  have k2 := setCells_whole kz hzz
  have B2 := below_setCells (g := w1.heap.size) L.toList 0 (b1.alloc b1.size (.cells Z47 56)) b1.size
  have n2 := hn.alloc (.cells Z47 56)
  obtain ⟨W2, r, hW2, hr0⟩ : ∃ W2 r, W2 = (w1.alloc (.cells Z47 56)).setCells r 0 L.toList ∧ r = w1.heap.size := ⟨_, _, rfl, rfl⟩
  have b12 : Below w1.heap.size w1 W2 := by
    rw [hW2, hr0]
    exact below_setCells (g := w1.heap.size) L.toList 0 (below_al w1 _) (Nat.le_refl _)
  rw [← hr0] at kz k2 B2
  rw [← hW2] at k2 B2
  have HL := Lib.hid (And.intro hL (And.intro hi (And.intro hzz (And.intro kz (And.intro hW2.symm (And.intro k2 (And.intro B2 (hok.below b12))))))))
  have HR0 := Lib.hid hr0.symm
  clear hL hi hzz kz k2 B2 n2 hok hn b1 b12 hW2 hr0
  go_wp2_with (first | (refine wpl_allocg rfl (run_alloc47 rfl _) ?_; rw [HR0.out]) | (refine wpl_storeg HL.out.2.2.2.1 HL.out.2.2.1 rfl rfl 56 (.tmp 12) (.tmp 150) rfl rfl rfl (info47 HL.out.2.1) HL.out.2.1.2 ?_; rw [HL.out.2.2.2.2.1]) | (refine wpl_loadg HL.out.2.2.2.2.2.1 rfl 56 (.tmp 12) rfl rfl _ HU.out rfl (info47 HL.out.2.1) ?_))
  rw [HL.out.1]
  refine (lawright_any (o.dflt.reval V) W2 HL.out.2.2.2.2.2.2.2).mono ?_
  rintro e w3 ⟨rfl, b3⟩
  rw [errO_reval, ← HL.out.1]
  have B3 := below_tr HL.out.2.2.2.2.2.2.1 b3
  have k3 := HL.out.2.2.2.2.2.1.below' b3
  have hq3 := HQ.out.below' B3
  have d0 : w3.cell? ⟨q, 0, none⟩ = some (.int .i64 0) := by rw [hq3.cell]; exact (actA_is 0 o right).2.1
  have hr3 : w3.rangeAt q 1 o.cells := by
    have := range_sub hq3.range 1 47
    rwa [actA_ob] at this
  have H3 := Lib.hid (And.intro B3 (And.intro k3 (And.intro hq3 hr3)))
  obtain ⟨er, her⟩ : ∃ er, er = errO o.dflt := ⟨_, rfl⟩
  rw [← her]
  have HER := Lib.hid her
  clear B3 k3 hq3 hr3 b3 her c0
  go_wp2_with (first | (refine wpl_loadat H3.out.2.2.2 rfl 56 (.tmp 158) rfl rfl _ HU.out rfl (by kernel_rfl) ?_))
  refine (screate_any (HS.out.1.below H3.out.1) HN.out.1 (by have := HN.out.2.1; omega) HN.out.2.2 o (HS.out.2.1.below H3.out.1) Lw HS.out.2.2.1 HS.out.2.2.2.1).mono ?_
  rintro e w4 hst
  rw [if_neg HS.out.2.2.2.2, ← HER.out] at hst
  obtain ⟨rfl, b4⟩ := hst
  have hne : er ≠ 0 := by rw [HER.out]; exact HS.out.2.2.2.2
  have hne2 : (er == 0) = false := by simpa using hne
  have hne3 : (er != 0) = true := by simpa using hne
  have H4 := Lib.hid (below_tr H3.out.1 b4)
  clear b4 d0 hne
  go_wp2_with fail
  go_ret
  exact ⟨rfl, H4.out⟩
set_option maxHeartbeats 8000000 in
set_option maxRecDepth 100000 in
theorem do8_cr_same (c : Code) (hc : IsRest c) (f : Nat → Value) (w : World) (p b n : Nat) (D : DataW Value) (most : Int) (now : Nat) (ev : Value) (evs : List Ev) (h : StIs w p b n D most now ev evs) (hN : n < maxLen) (hnow : now < 1000000) (hevs : evs.length ≤ 1024) (mb q : Nat) (ak : Int) (o : Ob) (right : Bool) (fi : Int) (hak : ak = 0) (ho : o.Ok w)
    (hq : Bk w q 58 (actA ak o right)) (Lw : Array Value) (hLw : Is47 Lw) (hval : valAt D (kOf o.kind o.name) (.agg Z47) = .agg Lw) (hgood : errO o.dflt = 0) (hhas : Maps.has D (kOf o.kind o.name) = true) (hfi : 0 ≤ fi) :
    c.wp Try.prog (bodyPost Try.prog Try.f7 fun e w' => e = .returned (.bool true) ∧ Below w.heap.size w w') ⟨doF p mb most q fi f, []⟩ w := by
  obtain ⟨a0, a1, a2, a3, a4, a5⟩ := actA_is ak o right
  have c0 : w.cell? ⟨q, 0, none⟩ = some (.int .i64 ak) := by rw [hq.cell]; exact a1
  have HQ := Lib.hid hq
  have HS := Lib.hid (And.intro h (And.intro ho (And.intro hLw (And.intro hval hgood))))
  have HN := Lib.hid (And.intro hN (And.intro hnow hevs))
  have hr : w.rangeAt q 1 o.cells := by
    have := range_sub hq.range 1 47
    rwa [actA_ob] at this
  have HR := Lib.hid hr
  have HU := Lib.hid (Try.underlying56)
  clear h hval hLw ho hq a0 a1 a2 a3 a4 a5 hgood hN hnow hevs hr
  subst hak
  obtain ⟨x, y, z, hlit⟩ := hc
  cases hlit
  unfold doF
  go_wp2_with (refine wpl_loadat HR.out rfl 56 (.tmp 148) rfl rfl _ HU.out rfl (by kernel_rfl) ?_)
  refine (vdefault_any o w HS.out.2.1).mono ?_
  rintro e w1 ⟨V, rfl, hn, b1⟩
  obtain ⟨L, hL⟩ : ∃ L : Array Value, L = (o.dflt.reval V).cells.toArray := ⟨_, rfl⟩
  have hok := HS.out.2.1.fit.dflt.ok hn
  have hi := cells_is _ hok
  rw [← hL] at hi ⊢
  have kz := Bk.new w1 56 Z47
  have hzz : Z47.size = L.size := hi.1.symm
  have k2 := setCells_whole kz hzz
  have B2 := below_setCells (g := w1.heap.size) L.toList 0 (b1.alloc b1.size (.cells Z47 56)) b1.size
  have n2 := hn.alloc (.cells Z47 56)
  obtain ⟨W2, r, hW2, hr0⟩ : ∃ W2 r, W2 = (w1.alloc (.cells Z47 56)).setCells r 0 L.toList ∧ r = w1.heap.size := ⟨_, _, rfl, rfl⟩
  have b12 : Below w1.heap.size w1 W2 := by
    rw [hW2, hr0]
    exact below_setCells (g := w1.heap.size) L.toList 0 (below_al w1 _) (Nat.le_refl _)
  rw [← hr0] at kz k2 B2
  rw [← hW2] at k2 B2
  have HL := Lib.hid (And.intro hL (And.intro hi (And.intro hzz (And.intro kz (And.intro hW2.symm (And.intro k2 (And.intro B2 (hok.below b12))))))))
  have HR0 := Lib.hid hr0.symm
  clear hL hi hzz kz k2 B2 n2 hok hn b1 b12 hW2 hr0
  go_wp2_with (first | (refine wpl_allocg rfl (run_alloc47 rfl _) ?_; rw [HR0.out]) | (refine wpl_storeg HL.out.2.2.2.1 HL.out.2.2.1 rfl rfl 56 (.tmp 12) (.tmp 150) rfl rfl rfl (info47 HL.out.2.1) HL.out.2.1.2 ?_; rw [HL.out.2.2.2.2.1]) | (refine wpl_loadg HL.out.2.2.2.2.2.1 rfl 56 (.tmp 12) rfl rfl _ HU.out rfl (info47 HL.out.2.1) ?_))
  rw [HL.out.1]
  refine (lawright_any (o.dflt.reval V) W2 HL.out.2.2.2.2.2.2.2).mono ?_
  rintro e w3 ⟨rfl, b3⟩
  rw [errO_reval, ← HL.out.1]
  have B3 := below_tr HL.out.2.2.2.2.2.2.1 b3
  have k3 := HL.out.2.2.2.2.2.1.below' b3
  have hq3 := HQ.out.below' B3
  have d0 : w3.cell? ⟨q, 0, none⟩ = some (.int .i64 0) := by rw [hq3.cell]; exact (actA_is 0 o right).2.1
  have hr3 : w3.rangeAt q 1 o.cells := by
    have := range_sub hq3.range 1 47
    rwa [actA_ob] at this
  have H3 := Lib.hid (And.intro B3 (And.intro k3 (And.intro hq3 hr3)))
  obtain ⟨er, her⟩ : ∃ er, er = errO o.dflt := ⟨_, rfl⟩
  rw [← her]
  have HER := Lib.hid her
  clear B3 k3 hq3 hr3 b3 her c0
  go_wp2_with (first | (refine wpl_loadat H3.out.2.2.2 rfl 56 (.tmp 158) rfl rfl _ HU.out rfl (by kernel_rfl) ?_))
  refine (screate_any (HS.out.1.below H3.out.1) HN.out.1 (by have := HN.out.2.1; omega) HN.out.2.2 o (HS.out.2.1.below H3.out.1) Lw HS.out.2.2.1 HS.out.2.2.2.1).mono ?_
  rintro e w4 hst
  rw [if_pos HS.out.2.2.2.2] at hst
  obtain ⟨L', wm, _, bm, hst⟩ := hst
  unfold CreateSt at hst
  rw [if_pos hhas] at hst
  obtain ⟨rfl, b40⟩ := hst
  have b4 := below_tr bm b40
  clear b40 bm
  have hne : er = 0 := by rw [HER.out]; exact HS.out.2.2.2.2
  have H4 := Lib.hid (below_tr H3.out.1 b4)
  clear b4 d0 hhas
  subst hne
  go_wp2_with fail
  go_ret
  exact ⟨rfl, H4.out⟩
set_option maxHeartbeats 8000000 in
set_option maxRecDepth 100000 in
theorem do8_cr_full (c : Code) (hc : IsRest c) (f : Nat → Value) (w : World) (p b n : Nat) (D : DataW Value) (most : Int) (now : Nat) (ev : Value) (evs : List Ev) (h : StIs w p b n D most now ev evs) (hN : n < maxLen) (hnow : now < 1000000) (hevs : evs.length ≤ 1024) (mb q : Nat) (ak : Int) (o : Ob) (right : Bool) (fi : Int) (hak : ak = 0) (ho : o.Ok w)
    (hq : Bk w q 58 (actA ak o right)) (Lw : Array Value) (hLw : Is47 Lw) (hval : valAt D (kOf o.kind o.name) (.agg Z47) = .agg Lw) (hgood : errO o.dflt = 0) (hhas : Maps.has D (kOf o.kind o.name) = false) (hfi : fi < 0) (lv : Value) (mlen : Nat) (xs : List Value) (hmb : w.cell? ⟨mb, 0, none⟩ = some lv) (hrow : Sl w 47 lv mlen xs) (hfull : most ≤ Maps.size D) (hsz : Maps.size D = mlen) :
    c.wp Try.prog (bodyPost Try.prog Try.f7 fun e w' => e = .returned (.bool true) ∧ Below w.heap.size w w') ⟨doF p mb most q fi f, []⟩ w := by
  obtain ⟨a0, a1, a2, a3, a4, a5⟩ := actA_is ak o right
  have c0 : w.cell? ⟨q, 0, none⟩ = some (.int .i64 ak) := by rw [hq.cell]; exact a1
  have HQ := Lib.hid hq
  have HS := Lib.hid (And.intro h (And.intro ho (And.intro hLw (And.intro hval hgood))))
  have HN := Lib.hid (And.intro hN (And.intro hnow hevs))
  have hr : w.rangeAt q 1 o.cells := by
    have := range_sub hq.range 1 47
    rwa [actA_ob] at this
  have HR := Lib.hid hr
  have HU := Lib.hid (Try.underlying56)
  clear h hval hLw ho hq a0 a1 a2 a3 a4 a5 hgood hN hnow hevs hr
  have HF := Lib.hid (And.intro hhas (And.intro hmb (And.intro hrow (And.intro hfull hsz))))
  clear hhas hmb hrow hfull hsz
  subst hak
  obtain ⟨x, y, z, hlit⟩ := hc
  cases hlit
  unfold doF
  go_wp2_with (refine wpl_loadat HR.out rfl 56 (.tmp 148) rfl rfl _ HU.out rfl (by kernel_rfl) ?_)
  refine (vdefault_any o w HS.out.2.1).mono ?_
  rintro e w1 ⟨V, rfl, hn, b1⟩
  obtain ⟨L, hL⟩ : ∃ L : Array Value, L = (o.dflt.reval V).cells.toArray := ⟨_, rfl⟩
  have hok := HS.out.2.1.fit.dflt.ok hn
  have hi := cells_is _ hok
  rw [← hL] at hi ⊢
  have kz := Bk.new w1 56 Z47
  have hzz : Z47.size = L.size := hi.1.symm
  have k2 := setCells_whole kz hzz
  have B2 := below_setCells (g := w1.heap.size) L.toList 0 (b1.alloc b1.size (.cells Z47 56)) b1.size
  have n2 := hn.alloc (.cells Z47 56)
  obtain ⟨W2, r, hW2, hr0⟩ : ∃ W2 r, W2 = (w1.alloc (.cells Z47 56)).setCells r 0 L.toList ∧ r = w1.heap.size := ⟨_, _, rfl, rfl⟩
  have b12 : Below w1.heap.size w1 W2 := by
    rw [hW2, hr0]
    exact below_setCells (g := w1.heap.size) L.toList 0 (below_al w1 _) (Nat.le_refl _)
  rw [← hr0] at kz k2 B2
  rw [← hW2] at k2 B2
  have HL := Lib.hid (And.intro hL (And.intro hi (And.intro hzz (And.intro kz (And.intro hW2.symm (And.intro k2 (And.intro B2 (hok.below b12))))))))
  have HR0 := Lib.hid hr0.symm
  clear hL hi hzz kz k2 B2 n2 hok hn b1 b12 hW2 hr0
  go_wp2_with (first | (refine wpl_allocg rfl (run_alloc47 rfl _) ?_; rw [HR0.out]) | (refine wpl_storeg HL.out.2.2.2.1 HL.out.2.2.1 rfl rfl 56 (.tmp 12) (.tmp 150) rfl rfl rfl (info47 HL.out.2.1) HL.out.2.1.2 ?_; rw [HL.out.2.2.2.2.1]) | (refine wpl_loadg HL.out.2.2.2.2.2.1 rfl 56 (.tmp 12) rfl rfl _ HU.out rfl (info47 HL.out.2.1) ?_))
  rw [HL.out.1]
  refine (lawright_any (o.dflt.reval V) W2 HL.out.2.2.2.2.2.2.2).mono ?_
  rintro e w3 ⟨rfl, b3⟩
  rw [errO_reval, ← HL.out.1]
  have B3 := below_tr HL.out.2.2.2.2.2.2.1 b3
  have k3 := HL.out.2.2.2.2.2.1.below' b3
  have hq3 := HQ.out.below' B3
  have d0 : w3.cell? ⟨q, 0, none⟩ = some (.int .i64 0) := by rw [hq3.cell]; exact (actA_is 0 o right).2.1
  have hr3 : w3.rangeAt q 1 o.cells := by
    have := range_sub hq3.range 1 47
    rwa [actA_ob] at this
  have H3 := Lib.hid (And.intro B3 (And.intro k3 (And.intro hq3 hr3)))
  obtain ⟨er, her⟩ : ∃ er, er = errO o.dflt := ⟨_, rfl⟩
  rw [← her]
  have HER := Lib.hid her
  clear B3 k3 hq3 hr3 b3 her c0
  go_wp2_with (first | (refine wpl_loadat H3.out.2.2.2 rfl 56 (.tmp 158) rfl rfl _ HU.out rfl (by kernel_rfl) ?_))
  refine (screate_any (HS.out.1.below H3.out.1) HN.out.1 (by have := HN.out.2.1; omega) HN.out.2.2 o (HS.out.2.1.below H3.out.1) Lw HS.out.2.2.1 HS.out.2.2.2.1).mono ?_
  rintro e w4 hst
  rw [if_pos HS.out.2.2.2.2] at hst
  obtain ⟨L', wm, _, bm, hst⟩ := hst
  unfold CreateSt at hst
  rw [if_neg (by rw [HF.out.1]; simp), if_pos HF.out.2.2.2.1] at hst
  obtain ⟨rfl, b40⟩ := hst
  have b4 := below_tr bm b40
  clear b40 bm
  have hne : er = 0 := by rw [HER.out]; exact HS.out.2.2.2.2
  have B4 := below_tr H3.out.1 b4
  have dm : w4.cell? ⟨mb, 0, none⟩ = some lv := keep_cell B4 HF.out.2.1
  obtain ⟨Al, cl, e1, _⟩ := id HF.out.2.2.1
  have hlv := e1
  subst hlv
  have hfi2 : ¬ 0 ≤ fi := by omega
  have hm : most ≤ (mlen : Int) := by
    have h1 := HF.out.2.2.2.1
    have h2 := HF.out.2.2.2.2
    omega
  have H4 := Lib.hid B4
  clear b4 d0 B4 e1
  subst hne
  go_wp2_with fail
  go_ret
  exact ⟨rfl, H4.out⟩
end Go.Proofs.Ytlhaiflebigdlaa
end
section
namespace Go.Proofs.Ytlhaiflebigdlaa
open Go.RowKit Go.Proofs.Mem
set_option linter.unusedVariables false
set_option linter.unusedSimpArgs false
theorem fill_one (L : Array Value) (hL : L.size = 47) (cs : Array Value) (hc : cs.size = 47) : Instr.fill (fun i => some (i * 47, 47)) cs [(0, .agg L)] = some L := by
  obtain ⟨r, h1, h2, h3⟩ := Go.Great.fill_dense (s := 47) (by omega) [.agg L] 0 cs (fun v hv => by
    simp only [List.mem_cons, List.not_mem_nil, or_false] at hv
    subst hv
    exact hL) (by simp [hc])
  have e : r = L := by
    apply Array.ext_getElem?
    intro k
    rw [h3 k]
    rcases Nat.lt_or_ge k 47 with hk | hk
    · rw [if_pos (by simp; omega)]
      have e1 : k / 47 = 0 := Nat.div_eq_of_lt hk
      have e2 : k % 47 = k := Nat.mod_eq_of_lt hk
      simp [e1, e2, Value.cells]
    · rw [if_neg (by simp; omega), Array.getElem?_eq_none (by omega), Array.getElem?_eq_none (by omega)]
  exact h1.trans (congrArg some e)
theorem run_build1 {ev : Operand → Value} {o : Oper} {L : Array Value} {x : Operand} (hL : L.size = 47) (ho : o.op = .buildSlice 30 1 #[(0, x)]) (hx : ev x = .agg L) (w : World) : (execOp ev o).run Try.prog w = .ok (.value (.slice (some ⟨w.heap.size, 0, none⟩) 1 1)) (w.alloc (.cells L 56)) := by
  obtain ⟨ie, hie, hz, hs, _⟩ := info_parts info_obj
  have hf : Instr.fill (fun i => some (i * ie.size, ie.size)) ((Array.range (1 * ie.size)).map ((Value.agg Z47).cells[· % (Value.agg Z47).cells.size]!)) (#[((0 : Nat), Value.agg L)]).toList = some L := by
    rw [hs]
    exact fill_one L hL _ (by simp)
  have hr := run_buildSlice (P := Try.prog) w 30 56 1 #[(0, .agg L)] L ie (.agg Z47) Try.underlying30 hie hz (by rw [hs]; omega) (by rw [hs]; omega) hf
  unfold execOp
  simp only [ho, Array.map, List.map_toArray, List.map_cons, List.map_nil, hx, Sem.run_bind, hr, Result.andThen_ok, Sem.run_pure]
  simp [hx, Sem.run_bind, hr, Result.andThen_ok, Sem.run_pure]
theorem readsL_loadg {P : Program} {ops : Array Oper} {S : World → Prop} {free : Nat → Bool} {Lq : Act → Prop} {i : Nat} {o : Oper} {r : List Nat} {a : Act} {g : Nat} {t : TypeId} {cs : Array Value} (hk : ∀ w, S w → Bk w g t cs) (hi : ops[i]? = some o) (hf : free i = false) (hw : Region.wanted o (yielded ops a.tmps) = true) (ty : TypeId) (x : Operand) (ho : o.op = .load ty x)
    (hx : a.eval x = .pointer (some ⟨g, 0, none⟩)) (d : TypeDesc) (hu : P.underlying ty = some d) (hd : d.isRow = true) (hin : (P.info? ty).map (·.size) = some cs.size) (h : wpReadsL P ops S free Lq r (a.put o.dst (.agg cs))) : wpReadsL P ops S free Lq (i :: r) a := by
  refine readsL_step hi hf hw (fun w hS => ?_) h
  have hr := run_loadAt_mid (P := P) w g 0 ty cs.toList d (hk w hS).range hu hd (by simpa using hin)
  unfold execOp
  simp only [ho, hx, Sem.run_bind, hr, Result.andThen_ok, Sem.run_pure]
end Go.Proofs.Ytlhaiflebigdlaa
end
section
namespace Go.Proofs.Ytlhaiflebigdlaa
open Go.RowKit Go.Proofs.Mem
set_option linter.unusedVariables false
set_option linter.unusedSimpArgs false
theorem News.tch {o : Ob} {F : Nat → Prop} {w1 w2 : World} {B : Nat} {V : Nat → Value} (h : o.News w1 B V) (ht : Tch F w1 w2) (hF : ∀ j, F j → j < B ∨ w1.heap.size ≤ j) : o.News w2 B V := fun k hk => by
  obtain ⟨hs, hb⟩ := h k hk
  refine ⟨Sl.tch hs (fun ad m c e h0 hf => ?_) ht, hb⟩
  obtain ⟨A, c', e', _, _, _, hx⟩ := id hs
  rw [e'] at e
  injection e with e1 e2 e3
  subst e2
  obtain ⟨ad', e4, hlt, _⟩ := hx h0
  rw [e1] at e4
  injection e4 with e4
  subst e4
  have h1 := hb ad _ _ (by rw [e', e1])
  have := hF _ hf
  omega
theorem cells_ver (x : Ob) (v : Int) : (x.cells.toArray.setIfInBounds 2 (.int .u64 v)).toList = (Ob.mk x.kind x.name v x.w x.p x.n x.g x.h).cells := by
  rw [List.setIfInBounds_toArray]
  show x.cells.set 2 _ = _
  kernel_rfl
theorem Ob.News.safe2 {x : Ob} {w w' : World} {F : Nat → Prop} {B : Nat} {V : Nat → Value} (hf : x.Fit) (hn : x.News w B V) (hn' : x.News w' B V) (hF : ∀ i, F i → i < B ∨ w.heap.size ≤ i) : (x.reval V).Safe F w' := by
  refine ⟨hf.ok hn', fun k hk v e => ?_⟩
  have h1 := hn k hk
  have hk' := hk
  have hv : v = V k := by
    simp only [rowsAt, List.mem_cons, List.not_mem_nil, or_false] at hk'
    rcases hk' with rfl | rfl | rfl | rfl | rfl | rfl | rfl | rfl | rfl | rfl | rfl | rfl | rfl | rfl <;> (injection e with e; exact e.symm)
  intro ad n c hs h0 hf'
  have h2 := h1.2 ad n c (hv ▸ hs)
  have h3 : ad.block < w.heap.size := by
    obtain ⟨A, c', e', hc, hn, hl, hx⟩ := h1.1
    rw [← hv, hs] at e'
    injection e' with e1 e2 e3
    subst e2
    obtain ⟨ad', e4, hlt, _⟩ := hx h0
    rw [← e1] at e4
    injection e4 with e4
    rw [e4]
    exact hlt
  have := hF _ hf'
  omega
/-- What is put into the store, and into the model: both default's objects, with rows of their own that nothing turns. -/
def Taken (p b mb : Nat) (o : Ob) (L' : Array Value) (V : Nat → Value) (ev' mev' lv' : Value) (w' : World) : Prop :=
  ∃ V', L' = (o.dflt.reval V').cells.toArray ∧ (o.dflt.reval V').Safe (PF p b mb ev' mev' lv') w' ∧ (o.dflt.reval V).Safe (PF p b mb ev' mev' lv') w'
/-- What Create leaves, where it is taken. -/
def CrOut (w : World) (p b n : Nat) (D : DataW Value) (most : Int) (now : Nat) (ev : Value) (evs : List Ev) (mb : Nat) (lv mev : Value) (mevs : List Ev) (ml : List Ob) (o : Ob) (e : Ending) (w' : World) : Prop :=
  ∃ L' V, ActOut w p b (n + 1) (D.put (kOf o.kind o.name) (.held (.agg (putL L' (now + 1))))) most now ev evs mb lv mev mevs (ml ++ [⟨o.kind, o.name, ((now + 1 : Nat) : Int), (o.dflt.reval V).w, (o.dflt.reval V).p, (o.dflt.reval V).n, (o.dflt.reval V).g, (o.dflt.reval V).h⟩]) ⟨0, o.kind, o.name, now + 1⟩ (Taken p b mb o L' V) e w'
set_option maxHeartbeats 8000000 in
set_option maxRecDepth 100000 in
theorem do8_cr_ok (c : Code) (hc : IsRest c) (f : Nat → Value) (w : World) (p b n : Nat) (D : DataW Value) (most : Int) (now : Nat) (ev : Value) (evs : List Ev) (h : StIs w p b n D most now ev evs) (hN : n < maxLen) (hnow : now < 1000000) (hevs : evs.length ≤ 1024) (mb q : Nat) (ak : Int) (o : Ob) (right : Bool) (fi : Int) (hak : ak = 0) (ho : o.Ok w)
    (hq : Bk w q 58 (actA ak o right)) (Lw : Array Value) (hLw : Is47 Lw) (hval : valAt D (kOf o.kind o.name) (.agg Z47) = .agg Lw) (hgood : errO o.dflt = 0) (hhas : Maps.has D (kOf o.kind o.name) = false) (hfi : fi < 0) (lv mev : Value) (mevs : List Ev) (ml : List Ob) (hml : ml.length < 1000) (hm : MdIs w mb lv now mev mevs) (hmevs : mevs.length < 100000) (hrow : w.ownsRow (mb + 1) 56 47 lv ml.length (ml.flatMap Ob.cells)) (hap : Apart p b mb ev mev lv) (hfull : ¬ most ≤ Maps.size D) (hsz : Maps.size D = ml.length) :
    c.wp Try.prog (bodyPost Try.prog Try.f7 (CrOut w p b n D most now ev evs mb lv mev mevs ml o)) ⟨doF p mb most q fi f, []⟩ w := by
  obtain ⟨a0, a1, a2, a3, a4, a5⟩ := actA_is ak o right
  have c0 : w.cell? ⟨q, 0, none⟩ = some (.int .i64 ak) := by rw [hq.cell]; exact a1
  have HQ := Lib.hid hq
  have HS := Lib.hid (And.intro h (And.intro ho (And.intro hLw (And.intro hval hgood))))
  have HN := Lib.hid (And.intro hN (And.intro hnow hevs))
  have hr : w.rangeAt q 1 o.cells := by
    have := range_sub hq.range 1 47
    rwa [actA_ob] at this
  have HR := Lib.hid hr
  have HU := Lib.hid (Try.underlying56)
  clear h hval hLw ho hq a0 a1 a2 a3 a4 a5 hgood hN hnow hevs hr
  have hlen : (ml.length : Int) < 1000 := by omega
  have HF := Lib.hid (And.intro hhas (And.intro hm (And.intro hrow (And.intro hfull (And.intro hsz (And.intro hap (And.intro hmevs hml)))))))
  clear hhas hm hrow hfull hsz hap hmevs hml
  subst hak
  obtain ⟨x, y, z, hlit⟩ := hc
  cases hlit
  unfold doF
  go_wp2_with (refine wpl_loadat HR.out rfl 56 (.tmp 148) rfl rfl _ HU.out rfl (by kernel_rfl) ?_)
  refine (vdefault_any o w HS.out.2.1).mono ?_
  rintro e w1 ⟨V, rfl, hn, b1⟩
  obtain ⟨L, hL⟩ : ∃ L : Array Value, L = (o.dflt.reval V).cells.toArray := ⟨_, rfl⟩
  have hok := HS.out.2.1.fit.dflt.ok hn
  have hi := cells_is _ hok
  rw [← hL] at hi ⊢
  have kz := Bk.new w1 56 Z47
  have hzz : Z47.size = L.size := hi.1.symm
  have k2 := setCells_whole kz hzz
  have B2 := below_setCells (g := w1.heap.size) L.toList 0 (b1.alloc b1.size (.cells Z47 56)) b1.size
  have n2 := hn.alloc (.cells Z47 56)
  obtain ⟨W2, r, hW2, hr0⟩ : ∃ W2 r, W2 = (w1.alloc (.cells Z47 56)).setCells r 0 L.toList ∧ r = w1.heap.size := ⟨_, _, rfl, rfl⟩
  have b12 : Below w1.heap.size w1 W2 := by
    rw [hW2, hr0]
    exact below_setCells (g := w1.heap.size) L.toList 0 (below_al w1 _) (Nat.le_refl _)
  rw [← hr0] at kz k2 B2
  rw [← hW2] at k2 B2
  have HL := Lib.hid (And.intro hL (And.intro hi (And.intro hzz (And.intro kz (And.intro hW2.symm (And.intro k2 (And.intro B2 (And.intro (hok.below b12) (And.intro b12 (hn.below b12))))))))))
  have HR0 := Lib.hid hr0.symm
  have HN1 := Lib.hid hn
  have hwr : w.heap.size ≤ r := by rw [hr0]; exact b1.size
  clear hL hi hzz kz k2 B2 n2 hok hn b1 b12 hW2 hr0
  go_wp2_with (first | (refine wpl_allocg rfl (run_alloc47 rfl _) ?_; rw [HR0.out]) | (refine wpl_storeg HL.out.2.2.2.1 HL.out.2.2.1 rfl rfl 56 (.tmp 12) (.tmp 150) rfl rfl rfl (info47 HL.out.2.1) HL.out.2.1.2 ?_; rw [HL.out.2.2.2.2.1]) | (refine wpl_loadg HL.out.2.2.2.2.2.1 rfl 56 (.tmp 12) rfl rfl _ HU.out rfl (info47 HL.out.2.1) ?_))
  rw [HL.out.1]
  refine (lawright_any (o.dflt.reval V) W2 HL.out.2.2.2.2.2.2.2.1).mono ?_
  rintro e w3 ⟨rfl, b3⟩
  rw [errO_reval, ← HL.out.1]
  have B3 := below_tr HL.out.2.2.2.2.2.2.1 b3
  have HN3 := Lib.hid (HL.out.2.2.2.2.2.2.2.2.2.below b3)
  have HB13 := Lib.hid (below_tr HL.out.2.2.2.2.2.2.2.2.1 b3)
  have k3 := HL.out.2.2.2.2.2.1.below' b3
  have hq3 := HQ.out.below' B3
  have d0 : w3.cell? ⟨q, 0, none⟩ = some (.int .i64 0) := by rw [hq3.cell]; exact (actA_is 0 o right).2.1
  have hr3 : w3.rangeAt q 1 o.cells := by
    have := range_sub hq3.range 1 47
    rwa [actA_ob] at this
  have H3 := Lib.hid (And.intro B3 (And.intro k3 (And.intro hq3 hr3)))
  obtain ⟨er, her⟩ : ∃ er, er = errO o.dflt := ⟨_, rfl⟩
  rw [← her]
  have HER := Lib.hid her
  clear B3 k3 hq3 hr3 b3 her c0
  go_wp2_with (first | (refine wpl_loadat H3.out.2.2.2 rfl 56 (.tmp 158) rfl rfl _ HU.out rfl (by kernel_rfl) ?_))
  refine (screate_any (HS.out.1.below H3.out.1) HN.out.1 (by have := HN.out.2.1; omega) HN.out.2.2 o (HS.out.2.1.below H3.out.1) Lw HS.out.2.2.1 HS.out.2.2.2.1).mono ?_
  rintro e w4 hst
  rw [if_pos HS.out.2.2.2.2] at hst
  obtain ⟨L', wm, ⟨V', hL', hnm⟩, bm, hst⟩ := hst
  unfold CreateSt PutSt2 at hst
  rw [if_neg (by rw [HF.out.1]; simp), if_neg (by have := HF.out.2.2.2.1; omega)] at hst
  obtain ⟨ev1, rfl, S4, T4m, E4m⟩ := hst
  have T4 : T3 p b ev w3 w4 := (T3.of_below bm).trans (EvTo.refl _ _) T4m
  have E4 : EvTo w3 ev ev1 := EvTo.trans bm.size (EvTo.refl _ _) E4m
  have hne : er = 0 := by rw [HER.out]; exact HS.out.2.2.2.2
  obtain ⟨hap, hmevs, hml⟩ := HF.out.2.2.2.2.2
  have hpw : p < w.heap.size := HS.out.1.2.1.lt
  have hbw : b < w.heap.size := by have := HS.out.1.1; omega
  have hmw : mb < w.heap.size := HF.out.2.1.1.lt
  have hevw : ∀ g, ev.ownBlock = some g → g < w.heap.size := fun g hg => (HS.out.1.evGe hg).2
  have hmevw : ∀ g, mev.ownBlock = some g → g < w.heap.size := fun g hg => (HF.out.2.1.evGe hg).2
  have hw3 : w.heap.size ≤ w3.heap.size := H3.out.1.size
  have k4 := T4.bk H3.out.2.1 (by omega) (by omega) (fun e => by have := hevw _ e.symm; omega)
  have m4 := (HF.out.2.1.below H3.out.1).t3 T4 hap
  have r4 := own_t3 (own_below HF.out.2.2.1 H3.out.1) T4 hap.lp hap.lb hap.le
  have n4 := News.t3 HN3.out hpw hbw hevw T4
  have D4 : o.dflt.News w4 (w3.heap.size + 1) V' := News.t3 hnm (by omega) (by omega) (fun g hg => by have := hevw g hg; omega) T4m
  have HMM := Lib.hid (And.intro hL' (And.intro hnm (And.intro E4m (And.intro T4m.size bm.size))))
  have em1 : ev1.ownBlock ≠ some mb := fun e => by
    rcases E4 with h | ⟨g, hg, h⟩
    · exact hap.em (h ▸ e)
    · rw [h] at e; injection e with e; omega
  have ee1 : ∀ g, ev1.ownBlock = some g → mev.ownBlock ≠ some g := fun g hg e => by
    rcases E4 with h | ⟨g', hg', h⟩
    · exact hap.me g e (h ▸ hg)
    · rw [h] at hg; injection hg with hg; have := hmevw g e; omega
  have hfi2 : ¬ 0 ≤ fi := by omega
  obtain ⟨Al, cl, e1, _⟩ := id (Sl.of_own r4)
  have hlv := e1
  subst hlv
  have dm4 := m4.1.cell 0
  have hm : ¬ most ≤ (ml.length : Int) := by
    have h1 := HF.out.2.2.2.1
    have h2 := HF.out.2.2.2.2.1
    omega
  have hLo : ObL L o.kind o.name o.version.toNat := DfO.obL HS.out.2.1.fit ⟨V, HL.out.1, n4⟩
  have H4 := Lib.hid (And.intro S4 (And.intro T4 (And.intro E4 (And.intro k4 (And.intro m4 (And.intro r4 (And.intro n4 (And.intro D4 (And.intro em1 ee1)))))))))
  have HLO := Lib.hid hLo
  have HAP := Lib.hid hap
  have HBD := Lib.hid (And.intro hpw (And.intro hbw (And.intro hmw (And.intro hevw (And.intro hmevw (And.intro hw3 hmevs))))))
  clear S4 T4 E4 k4 m4 r4 n4 D4 em1 ee1 hLo hL' hnm E4m T4m bm d0 hap hpw hbw hmw hevw hmevw hw3 hmevs e1
  subst hne
  go_wp2_with (refine wpl_loadg H4.out.2.2.2.1 rfl 56 (.tmp 12) rfl rfl _ HU.out rfl (info47 HL.out.2.1) ?_)
  refine (note8_any w4 mb _ now mev mevs H4.out.2.2.2.2.1 (by have := HN.out.2.1; omega) HBD.out.2.2.2.2.2.2 0 o.kind o.name o.version.toNat L HLO.out).mono ?_
  rintro e w5 ⟨mev', rfl, M5, TM5, EM5⟩
  obtain ⟨S4, T4, E4, k4, m4, r4, n4, D4, em1, ee1⟩ := H4.out
  obtain ⟨hpw, hbw, hmw, hevw, hmevw, hw3, hmevs⟩ := HBD.out
  have hap := HAP.out
  have k5 := TM5.bk k4 (by omega) (by omega) (fun e => by have := hmevw _ e.symm; omega)
  have S5 := S4.t3m TM5 hap.pm hap.bm hap.mp hap.mbb em1 ee1
  have r5 := own_t3 r4 TM5 hap.lm hap.lm hap.lme
  have n5 := News.t3 n4 hmw hmw hmevw TM5
  have D5 : o.dflt.News w5 (w3.heap.size + 1) V' := News.t3 D4 (by omega) (by omega) (fun g hg => by have := hmevw g hg; omega) TM5
  have c12 : w5.cell? ⟨mb, 1, none⟩ = some (.int .u64 ((now : Int) + 1)) := by
    rw [M5.1.cell]
    simp
  have c22 : w5.cell? ⟨r, 2, none⟩ = some (.int .u64 (o.version.toNat : Int)) := by rw [k5.cell]; exact HLO.out.ver
  have f22 := k5.frozen 2
  have v := Value.int .u64 ((now : Int) + 1)
  have hrm : r ≠ mb := by omega
  -- behind the store of the version
  have k6 := k5.set 2 (.int .u64 ((now : Int) + 1))
  have M6 : MdIs (w5.setCell ⟨r, 2, none⟩ (.int .u64 ((now : Int) + 1))) mb (.slice Al ml.length cl) (now + 1) mev' (mevs ++ [⟨0, o.kind, o.name, now + 1⟩]) := ⟨M5.1.far (p := ⟨r, 2, none⟩) (by simp; omega) _, own_block M5.2 fun g hg => Below.heap_setCell _ _ _ _ (by
    have h1 := (M5.evGe hg).1
    rcases EM5 with h | ⟨g', hg', h⟩
    · have h2 := hmevw g (h ▸ hg)
      simp; omega
    · rw [h] at hg; injection hg with hg
      have h3 := k4.lt
      simp; omega)⟩
  have T6 : T3 r r (.slice none 0 0) w5 (w5.setCell ⟨r, 2, none⟩ (.int .u64 ((now : Int) + 1))) := (T3.of_below (Below.refl _ _)).setP 2 _
  have hr3 : r < w3.heap.size := H3.out.2.1.lt
  have er : ev1.ownBlock ≠ some r := fun e => by
    rcases E4 with h | ⟨g, hg, h⟩
    · have := hevw r (h ▸ e); omega
    · rw [h] at e; injection e with e; omega
  have hlvw : ∀ g, (Value.slice Al ml.length cl).ownBlock = some g → g < w.heap.size := fun g hg => (HF.out.2.2.1.lt g hg).2
  have S6 := S5.t3m (mev := .slice none 0 0) T6 (by omega) (by omega) (fun e => by cases e) (fun e => by cases e) er (fun _ _ e => by cases e)
  have r6 := own_t3 r5 T6 (fun e => by have := hlvw _ e; omega) (fun e => by have := hlvw _ e; omega) (fun _ _ e => by cases e)
  have D6 : o.dflt.News (w5.setCell ⟨r, 2, none⟩ (.int .u64 ((now : Int) + 1))) (w3.heap.size + 1) V' := D5.set (by simp; omega) rfl _
  have hi2 : Is47 (L.setIfInBounds 2 (.int .u64 ((now : Int) + 1))) := HL.out.2.1.set 2 rfl
  have F2 : Tch (PF p b mb ev mev (.slice Al ml.length cl)) w3 w4 := tch_t3 T4 fun j hj => ⟨fun e => hj (.inl e), fun e => hj (.inr (.inl e)), fun e => hj (.inr (.inr (.inr (.inl e.symm))))⟩
  have F3 : Tch (PF p b mb ev mev (.slice Al ml.length cl)) w4 w5 := tch_t3 TM5 fun j hj => ⟨fun e => hj (.inr (.inr (.inl e))), fun e => hj (.inr (.inr (.inl e))), fun e => hj (.inr (.inr (.inr (.inr (.inl e.symm)))))⟩
  have F4 : Tch (fun j => j = r) w5 (w5.setCell ⟨r, 2, none⟩ (.int .u64 ((now : Int) + 1))) := tch_t3 T6 fun j hj => ⟨fun e => hj e, fun e => hj e, fun e => by cases e⟩
  have Fw := (((Tch.of_below (F := (PF p b mb ev mev (.slice Al ml.length cl))) H3.out.1).trans F2 (fun _ _ h => h)).trans F3 (fun _ _ h => h)).trans F4 (fun i hi e => absurd e (by omega))
  have Fn : Tch (fun j => (PF p b mb ev mev (.slice Al ml.length cl)) j ∨ j = r) w1 (w5.setCell ⟨r, 2, none⟩ (.int .u64 ((now : Int) + 1))) := (((Tch.of_below (F := fun j => (PF p b mb ev mev (.slice Al ml.length cl)) j ∨ j = r) HB13.out).trans (F2.mono (fun _ _ h => .inl h)) (fun _ _ h => h)).trans (F3.mono (fun _ _ h => .inl h)) (fun _ _ h => h)).trans (F4.mono (fun _ _ h => .inr h)) (fun _ _ h => h)
  have N6 := News.tch HN1.out Fn (fun j hj => by
    rcases hj with (h | h | h | h | h | h) | h
    · left; omega
    · left; omega
    · left; omega
    · exact .inl (hevw j h)
    · exact .inl (hmevw j h)
    · exact .inl (hlvw j h)
    · right; rw [h]; exact Nat.le_of_eq HR0.out)
  have H6 : RowKit.Hid (∃ W6, W6 = (w5.setCell ⟨r, 2, none⟩ (.int .u64 ((now : Int) + 1))) ∧ Bk W6 r 56 (L.setIfInBounds 2 (.int .u64 ((now : Int) + 1))) ∧ MdIs W6 mb (.slice Al ml.length cl) (now + 1) mev' (mevs ++ [⟨0, o.kind, o.name, now + 1⟩]) ∧ StIs W6 p b (n + 1) (D.put (kOf o.kind o.name) (.held (.agg (putL L' (now + 1))))) most (now + 1) ev1 (nextEvs evs ⟨0, o.kind, o.name, now + 1⟩) ∧ W6.ownsRow (mb + 1) 56 47 (.slice Al ml.length cl) ml.length (ml.flatMap Ob.cells) ∧ o.dflt.News W6 (w3.heap.size + 1) V' ∧ o.dflt.News W6 w.heap.size V ∧ Tch (PF p b mb ev mev (.slice Al ml.length cl)) w W6) :=
    ⟨_, rfl, k6, M6, S6, r6, D6, N6, Fw⟩
  have HML := Lib.hid (show ∀ g, mev'.ownBlock = some g → g < w5.heap.size from fun g hg => (M5.evGe hg).2)
  have HE := Lib.hid (And.intro E4 (And.intro EM5 (And.intro T4.size (And.intro TM5.size (And.intro hwr (And.intro hr3 (And.intro er em1)))))))
  clear S4 T4 E4 k4 m4 r4 n4 D4 em1 ee1 k5 S5 r5 n5 D5 k6 M6 T6 S6 r6 D6 F2 F3 F4 Fw Fn N6 M5 TM5 EM5 v hpw hbw hmw hevw hmevw hw3 hmevs hap hlvw
  go_wp2_with fail
  obtain ⟨W6, hW6, k6, M6, S6, r6, D6, N6, Fw⟩ := H6
  have HWS := Lib.hid (show w5.heap.size ≤ W6.heap.size by rw [hW6]; simp [World.setCell])
  rw [← hW6]
  clear hW6 c12 c22 f22
  refine wp_region_sched [0, 1, 2, 3, 4, 5] [(false, 6), (false, 7)] [8, 9, 10] (fun i => !(i == 4 || i == 5)) (fun w' => w'.cell? ⟨mb, 0, none⟩ = some (.slice Al ml.length cl) ∧ Bk w' r 56 (L.setIfInBounds 2 (.int .u64 ((now : Int) + 1)))) (by kernel_rfl) (by kernel_rfl) (fun c a d v w h => by cases d <;> exact h) ⟨M6.1.cell 0, k6⟩ fun u0 Hu => ?_
  refine readsL_free (v := ?_) (by rfl) (by rfl) (fun w' => ?_) ?_
  rotate_left
  · go_simp
    with_reducible rfl
  simp only [Act.put, List.setIfInBounds_toArray, List.set_cons_zero, List.set_cons_succ, List.getElem_toArray, List.getElem_cons_succ, List.getElem_cons_zero]
  refine readsL_free (v := ?_) (by rfl) (by rfl) (fun w' => ?_) ?_
  rotate_left
  · go_simp
    with_reducible rfl
  simp only [Act.put, List.setIfInBounds_toArray, List.set_cons_zero, List.set_cons_succ, List.getElem_toArray, List.getElem_cons_succ, List.getElem_cons_zero]
  refine readsL_free (v := ?_) (by rfl) (by rfl) (fun w' => ?_) ?_
  rotate_left
  · go_simp
    with_reducible rfl
  simp only [Act.put, List.setIfInBounds_toArray, List.set_cons_zero, List.set_cons_succ, List.getElem_toArray, List.getElem_cons_succ, List.getElem_cons_zero]
  refine readsL_free (v := ?_) (by rfl) (by rfl) (fun w' => ?_) ?_
  rotate_left
  · go_simp
    with_reducible rfl
  simp only [Act.put, List.setIfInBounds_toArray, List.set_cons_zero, List.set_cons_succ, List.getElem_toArray, List.getElem_cons_succ, List.getElem_cons_zero]
  refine readsL_step (v := ?_) (by rfl) (by rfl) (by rfl) (fun w' hS => ?_) ?_
  rotate_left
  · have u1 := hS.1
    clear hS
    go_simp
    with_reducible rfl
  simp only [Act.put, List.setIfInBounds_toArray, List.set_cons_zero, List.set_cons_succ, List.getElem_toArray, List.getElem_cons_succ, List.getElem_cons_zero]
  refine readsL_loadg (fun w' hS => hS.2) (by rfl) (by rfl) (by rfl) 56 (.tmp 12) rfl rfl _ HU.out rfl (info47 hi2) ?_
  simp only [Act.put, List.setIfInBounds_toArray, List.set_cons_zero, List.set_cons_succ, List.getElem_toArray, List.getElem_cons_succ, List.getElem_cons_zero]
  refine readsL_nil ?_
  have bu : Below W6.heap.size W6 u0 := by
    rw [Hu.out]
    exact (Below.refl _ _).drew
  obtain ⟨z, hz⟩ : ∃ z, z = u0.heap.size := ⟨_, rfl⟩
  have B7 : Below W6.heap.size W6 (u0.alloc (.cells (L.setIfInBounds 2 (.int .u64 ((now : Int) + 1))) 56)) := bu.alloc bu.size _
  have hsl : Sl (u0.alloc (.cells (L.setIfInBounds 2 (.int .u64 ((now : Int) + 1))) 56)) 47 (.slice (some ⟨z, 0, none⟩) 1 1) 1 (L.setIfInBounds 2 (.int .u64 ((now : Int) + 1))).toList := by
    rw [hz]
    exact Sl.made u0 _ _ 1 1 (Nat.le_refl _) (by rw [hi2.1])
  refine earlyL_run (v := .slice (some ⟨z, 0, none⟩) 1 1) (w1 := (u0.alloc (.cells (L.setIfInBounds 2 (.int .u64 ((now : Int) + 1))) 56))) (by rfl) (by rfl) (by rw [hz]; exact run_build1 hi2.1 rfl rfl _) ⟨(M6.below B7).1.cell 0, k6.below' B7⟩ ?_
  simp only [Act.put, List.setIfInBounds_toArray, List.set_cons_zero, List.set_cons_succ, List.getElem_toArray, List.getElem_cons_succ, List.getElem_cons_zero]
  have hml2 : ml.length < 1000 := HF.out.2.2.2.2.2.2.2
  have H7 := Lib.hid (And.intro k6 (And.intro M6 (And.intro S6 (And.intro r6 (And.intro D6 (And.intro N6 Fw))))))
  have HI2 := Lib.hid hi2
  clear Hu bu hz
  refine early_append (by rfl) rfl (.tmp 201) (.tmp 203) 30 rfl (mb + 1) 56 _ 47 640 Try.underlying30 info_obj rfl (by omega) (by omega) (.slice Al ml.length cl) ml.length _ rfl (own_below r6 B7) _ 1 _ rfl hsl (fun u hu => List.all_eq_true.1 hi2.2 u hu) (by omega) (M6.below B7).1.lt ?_
  intro A7 c7 w7 hown7 hg7 hb7
  clear hsl k6 M6 S6 r6 D6 N6 Fw
  obtain ⟨k6, M6, S6, r6, D6, N6, Fw⟩ := H7.out
  obtain ⟨hpw, hbw, hmw, hevw, hmevw, hw3, hmevs⟩ := HBD.out
  obtain ⟨E4, EM5, s34, s45, hwr, hr3, er, em1⟩ := HE.out
  have hap := HAP.out
  have hlvw : ∀ g, (Value.slice Al ml.length cl).ownBlock = some g → g < w.heap.size := fun g hg => (HF.out.2.2.1.lt g hg).2
  have hmb7 : some mb ≠ (Value.slice Al ml.length cl).ownBlock := fun e => hap.lm e.symm
  have hml7 : ∀ g, mev'.ownBlock = some g → (Value.slice Al ml.length cl).ownBlock ≠ some g := fun g hg e => by
    rcases EM5 with h | ⟨g', hg', h⟩
    · exact hap.lme g e (h ▸ hg)
    · rw [h] at hg; injection hg with hg; have := hlvw g e; omega
  have hel7 : ∀ g, ev1.ownBlock = some g → (Value.slice Al ml.length cl).ownBlock ≠ some g := fun g hg e => by
    rcases E4 with h | ⟨g', hg', h⟩
    · exact hap.le g e (h ▸ hg)
    · rw [h] at hg; injection hg with hg; have := hlvw g e; omega
  have T7 : T3 mb mb (.slice Al ml.length cl) (u0.alloc (.cells (L.setIfInBounds 2 (.int .u64 ((now : Int) + 1))) 56)) w7 := T3.grownE hg7
  have M7 : MdIs w7 mb (.slice Al ml.length cl) (now + 1) mev' (mevs ++ [⟨0, o.kind, o.name, now + 1⟩]) := ⟨(M6.below B7).1.grown hg7 hmb7, own_block (M6.below B7).2 fun g hg => hg7.block g ((M6.below B7).2.lt g hg).2 (fun e => hml7 g hg e.symm)⟩
  have k7 := (k6.below' B7).grown hg7 (fun e => by have := hlvw r e.symm; omega)
  refine ⟨⟨M7.1.cell 0, k7⟩, ?_⟩
  have S7 := (S6.below B7).t3m T7 hap.pm hap.bm hap.lp hap.lb em1 hel7
  have D7 : o.dflt.News w7 (w3.heap.size + 1) V' := News.t3 (D6.below B7) (by omega) (by omega) (fun g hg => by have := hlvw g hg; omega) T7
  have N7 := News.t3 (N6.below B7) hmw hmw hlvw T7
  have F7 : Tch (PF p b mb ev mev (.slice Al ml.length cl)) w w7 := (Fw.trans (Tch.of_below (F := (PF p b mb ev mev (.slice Al ml.length cl))) B7) (fun _ _ h => h)).trans (tch_t3 (F := (PF p b mb ev mev (.slice Al ml.length cl))) T7 fun j hj => ⟨fun e => hj (.inr (.inr (.inl e))), fun e => hj (.inr (.inr (.inl e))), fun e => hj (.inr (.inr (.inr (.inr (.inr e.symm)))))⟩) (fun _ _ h => h)
  have hlv7 : ∀ g, (Value.slice A7 (ml.length + 1) c7).ownBlock = some g → w5.heap.size ≤ g ∨ (Value.slice Al ml.length cl).ownBlock = some g := fun g hg => by
    rcases hb7 with h | h
    · right; rw [← h]; exact hg
    · left
      rw [h] at hg
      injection hg with hg
      have h1 := HWS.out
      have h2 := B7.size
      omega
  refine earlyL_nil ?_
  simp only [Act.put, List.setIfInBounds_toArray, List.set_cons_zero, List.set_cons_succ, List.getElem_toArray, List.getElem_cons_succ, List.getElem_cons_zero]
  simp only [List.filterMap_cons, List.filterMap_nil, List.getElem?_toArray, List.getElem?_cons_succ, List.getElem?_cons_zero]
  have dm := M7.1.cell 0
  have d1 : w7.cell? ⟨mb, 1, none⟩ = some (.int .u64 ((now : Int) + 1)) := by
    rw [M7.1.cell]
    simp
  have f0 := M7.1.frozen 0
  have H8 := Lib.hid (And.intro M7 (And.intro S7 (And.intro D7 (And.intro N7 (And.intro F7 (And.intro hlv7 hown7))))))
  clear M7 k7 S7 D7 N7 F7 hlv7 hown7 hg7 hb7 T7 k6 M6 S6 r6 D6 N6 Fw hpw hbw hmw hevw hmevw hw3 hmevs E4 EM5 s34 s45 hap hlvw hmb7 hml7 hel7 B7
  go_wp2_with fail
  all_goals
    go_ret
    obtain ⟨M7, S7, D7, N7, F7, hlv7, hown7⟩ := H8.out
    obtain ⟨hpw, hbw, hmw, hevw, hmevw, hw3, hmevs⟩ := HBD.out
    obtain ⟨E4, EM5, s34, s45, hwr, hr3, er, em1⟩ := HE.out
    have hap := HAP.out
    have S8 := S7.t3m (ev := ev1) (mev := .slice none 0 0) (((T3.of_below (p := mb) (b := mb) (ev := .slice none 0 0) (Below.refl w7.heap.size w7))).setP 0 (.slice A7 (ml.length + 1) c7)) hap.pm hap.bm (fun e => by cases e) (fun e => by cases e) em1 (fun _ _ e => by cases e)
    have k8 := M7.1.set 0 (.slice A7 (ml.length + 1) c7)
    simp only [List.setIfInBounds_toArray, List.set_cons_zero, List.set_cons_succ] at k8
    have o8 := own_block (w' := w7.setCell ⟨mb, 0, none⟩ (.slice A7 (ml.length + 1) c7)) M7.2 (fun g hg => Below.heap_setCell _ _ _ _ (by have := (M7.2.lt g hg).1; simp; omega))
    have r8 := own_block (w' := w7.setCell ⟨mb, 0, none⟩ (.slice A7 (ml.length + 1) c7)) hown7 (fun g hg => Below.heap_setCell _ _ _ _ (by have := (hown7.lt g hg).1; simp; omega))
    have D8 := D7.set (p := ⟨mb, 0, none⟩) (show mb < w3.heap.size + 1 by omega) rfl (.slice A7 (ml.length + 1) c7)
    have N8 := N7.set (p := ⟨mb, 0, none⟩) (show mb < w.heap.size by omega) rfl (.slice A7 (ml.length + 1) c7)
    have F8 := tch_set F7 (g := mb) (k := 0) (.inr (.inr (.inl rfl))) (.slice A7 (ml.length + 1) c7)
    have e1 : (o.dflt.reval V).kind = o.kind := dflt_kind o
    have e2 : (o.dflt.reval V).name = o.name := dflt_name o
    rw [HL.out.1, cells_ver, e1, e2] at r8
    obtain ⟨hL', hnm, E4m, sm4, s3m⟩ := HMM.out
    have hFm : ∀ j, PF p b mb ev1 mev' (.slice A7 (ml.length + 1) c7) j → j < w.heap.size ∨ wm.heap.size ≤ j := fun j hj => by
      rcases hj with rfl | rfl | rfl | h | h | h
      · exact .inl hpw
      · exact .inl hbw
      · exact .inl hmw
      · rcases E4m with e | ⟨g, hg, e⟩
        · exact .inl (hevw j (e ▸ h))
        · rw [e] at h; injection h with h; exact .inr (h ▸ hg)
      · rcases EM5 with e | ⟨g, hg, e⟩
        · exact .inl (hmevw j (e ▸ h))
        · rw [e] at h; injection h with h; right; omega
      · rcases hlv7 j h with e | e
        · right; omega
        · exact .inl ((HF.out.2.2.1.lt j e).2)
    have TK : Taken p b mb o L' V ev1 mev' (.slice A7 (ml.length + 1) c7) (w7.setCell ⟨mb, 0, none⟩ (.slice A7 (ml.length + 1) c7)) := ⟨V', hL', Ob.News.safe2 HS.out.2.1.fit.dflt hnm D8 (fun j hj => by have := hFm j hj; omega), Ob.News.safe2 HS.out.2.1.fit.dflt HN1.out N8 (fun j hj => by have := hFm j hj; have := HB13.out.size; omega)⟩
    refine ⟨L', V, rfl, ev1, mev', (.slice A7 (ml.length + 1) c7), TK, S8, ⟨k8, o8⟩, ?_, F8, EvTo.trans hw3 (EvTo.refl _ _) E4, EvTo.trans (Nat.le_trans hw3 s34) (EvTo.refl _ _) EM5, fun g hg => (hlv7 g hg).imp (fun h => Nat.le_trans (Nat.le_trans hw3 (Nat.le_trans s34 s45)) h) id, Apart.next HAP.out s34 s45 (Nat.lt_of_lt_of_le hpw hw3) (Nat.lt_of_lt_of_le hbw hw3) (Nat.lt_of_lt_of_le hmw hw3) (fun g hg => Nat.lt_of_lt_of_le (hevw g hg) hw3) (fun g hg => Nat.lt_of_lt_of_le (hmevw g hg) hw3) (fun g hg => Nat.lt_of_lt_of_le (HF.out.2.2.1.lt g hg).2 hw3) (E4.alt fun g hg => (H4.out.1.evGe hg).2) (EM5.alt HML.out) (fun g hg => (hlv7 g hg).symm)⟩
    rw [List.length_append, List.flatMap_append]
    simpa using r8
end Go.Proofs.Ytlhaiflebigdlaa
end
