/-
  The store's List, where the body turns the store (its names of the kind stay): each object of the kind comes, a copy of what is there then, in the order of names.; The walk of pods.Next (out of XPods, at other imports).; The walks of next and lives of package trimtablaw14.; PodsPass, plain words: what a pass makes of what a store holds; PodsPass, plain words: a valid pod that gets on stays valid; what a store holds may be said with other values of rows.; PodsPass: what the walk of the pass needs: what marks keep, loads and stores of parts of objects in a round, pods.same.; PodsPass: the walk of pods.Pass, of any store of at most so many changes and objects, at a tick that may be.; PodsPass: pods.Pass at a tick that may not be, and of no store.; PodsPass, plain words: a pass behind a pass turns nothing; what the law meets at each object.; PodsPass: a copy of a store stays as it is while the store is turned.; The walk of trimtablaw14.Stocked: no store, or one that holds at most 60 valid objects, each name of a kind once.; PodsPass: the frames and the invariants of the law's loops.; PodsPass: what a round of the law's leaves; the frame behind a pod's tests.
-/
import Derived.Test.YtoobjfpkdlffpaaCPPss8
import Derived.Test.YtoobjfpkdlffpaaCPPss6
import Derived.Test.YtoobjfpkdlffpaaCPPss1
import Derived.Test.YtoobjfpkdlffpaaCPPss5
section
namespace Go.Proofs.Ytoobjfpkdlffpaa
open Go.RowKit Go.Proofs.Mem
open Go.Sort
set_option linter.unusedVariables false
set_option linter.unusedSimpArgs false
theorem nms_keys {cl cl' : List Ob} {kind : Int} (h : keys cl' = keys cl) : nms cl' kind = nms cl kind := by
  have e : ∀ l : List Ob, ((l.filter fun x => decide (x.kind = kind)).map fun x => x.name.data.toList) = ((keys l).filter fun k => decide (k.1 = kind)).map fun k => k.2.data.toList := by
    intro l
    unfold keys
    rw [List.filter_map, List.map_map]
    rfl
  unfold nms
  rw [e, e, h]
def UInv (p b bs bk : Nat) (v : Value) (W : World) : Prop := ∃ ev, W.cell? ⟨p, 3, none⟩ = some ev ∧ ¬ PS p b ev bs ∧ ¬ PS p b ev bk ∧ ∀ g, v.ownBlock = some g → ¬ PS p b ev g
set_option maxHeartbeats 4000000 in
set_option maxRecDepth 100000 in
theorem ups_in (m : Nat) (hm : 1 ≤ m) (l p b n bs bk n₀ : Nat) (D : DataW Value) (ev0 : Value) (most : Int) (B : Nat) (G : Nat → Prop) (C : List Ob → List Ob) (cl : List Ob) (kind : Int) (hcl : cl.length ≤ 100000) (J Jx : List Ob → World → Prop) (w W : World) (hW : Below w.heap.size w W) (hn₀ : n₀ = w.heap.size)
    (hp : w.cell? ⟨p, 1, none⟩ = some (.map (some b))) (hmp : Mp Try.prog w 88 b n D) (R : SRel D (PS p b ev0) w cl) (hbs : w.cell? ⟨bs, 0, none⟩ = some (.pointer (some ⟨p, 0, none⟩))) (hbk : w.cell? ⟨bk, 0, none⟩ = some (.int .i64 kind))
    (hp3 : w.cell? ⟨p, 3, none⟩ = some ev0) (hne : ¬ PS p b ev0 bs ∧ ¬ PS p b ev0 bk ∧ ∀ g, PS p b ev0 g → g < n₀) (hG : (∀ j, G j → j < n₀) ∧ ¬ G bs ∧ ¬ G bk)
    (hQ : ∀ pre W1, J pre W1 → ∃ evs, S8 B W1 p b most evs (C pre)) (hC : ∀ pre, keys (C pre) = keys cl) (hJ : AbidesFrom W.heap.size J)
    (hY : ∀ pre x W1, J pre W1 → KnL (C pre) kind pre x W1 → YieldAt Fence.wide (m - 1) Try.prog l #[.agg x.cells.toArray] W1 fun e W' => (e = .returned (.bool true) ∧ J (pre ++ [x]) W' ∧ KeepU n₀ p b G W1 W') ∨ (e = .returned (.bool false) ∧ Jx (pre ++ [x]) W' ∧ KeepU n₀ p b G W1 W'))
    (h0 : J [] W) :
    CallsIn Fence.wide m Try.prog 30 #[.func (.yield l) #[] #[], .pointer (some ⟨bs, 0, none⟩), .pointer (some ⟨bk, 0, none⟩)] W fun e W' => (∃ v, e = .returned v) ∧ ((∃ ys, ys.length = (nms cl kind).length ∧ J ys W') ∨ (∃ pre, Jx pre W')) := by
  have HP := Lib.hid (And.intro hp (And.intro hmp (And.intro R (And.intro hbs (And.intro hbk (And.intro hW hn₀))))))
  have HJ := Lib.hid (And.intro hJ (And.intro hY (And.intro h0 (And.intro hQ (And.intro hC (And.intro hp3 (And.intro hne hG)))))))
  have e0 := keep_cell hW hbs
  have e1 := keep_cell hW hbk
  have e2 := keep_cell hW hp
  have hmW := hmp.below hW
  have HMW := Lib.hid hmW
  clear hp hmp R hbs hbk hW hn₀ hJ hY h0 hQ hC hp3 hne hG hmW
  refine callsIn_of_wp Try.func30 rfl trivial ?_ rfl
  simp only [Try.ntmps30, List.size_toArray, List.length_cons, List.length_nil, Nat.reduceAdd, Nat.reduceSub, Array.replicate_succ, Array.replicate_zero, List.push_toArray, List.append_toArray, List.nil_append, List.cons_append]
  refine wpIn_seq ?_
  refine wpIn_wide.2 ?_
  refine wp_hide fun QA HQA => ?_
  go_wp2_with fail
  rw [HQA.out]
  simp only [Exit.then]
  refine wpIn_seq ?_
  refine wpIn_wide.2 ?_
  refine wp_hide fun QB HQB => ?_
  go_wp2_with fail
  rw [HQB.out]
  simp only [Exit.then]
  refine wpIn_seq ?_
  refine wpIn_wide.2 ?_
  refine wp_hide fun QC HQC => ?_
  go_wp2_with (at_range; refine wpList_range_own _ rfl _ 83 rfl 88 57 stK underSt asIs b n D rfl HMW.out ?_; intro w0 hrg0 hg0 hs0)
  have hB0 : Below W.heap.size W w0 := ⟨hg0.os, hg0.tape, hg0.output, hg0.size, fun i hi => hg0.block i hi (by simp)⟩
  have h0s : Hid (w0.ranges Try.prog 88 asIs b W.heap.size n D (Maps.has D) (Maps.size D) ∧ w0.ownsRow W.heap.size 9 1 (.slice none 0 0) ([] : List (List UInt8)).length (([] : List (List UInt8)).map encStr) ∧ ([] : List (List UInt8)).Nodup ∧ (∀ s, s ∈ ([] : List (List UInt8)) ↔ ∃ x ∈ cl, x.kind = kind ∧ x.name.data.toList = s ∧ Maps.has D (kOf kind x.name) = false) ∧ (∀ kl, Maps.has D kl = true → Maps.has D kl = true) ∧ Below W.heap.size W w0) := by
    refine ⟨hrg0, World.ownsRow_nil _ _ _ _, List.nodup_nil, fun s => ⟨fun h => (by cases h), ?_⟩, fun _ h => h, hB0⟩
    rintro ⟨x, hx, hk, _, hh⟩
    have := (HP.out.2.2.1.at1 x hx).1
    rw [hk, hh] at this
    cases this
  clear hg0 hs0 hB0 hrg0
  go_frame
  go_loopw [4] (fun nv wr => ∃ (left : Lit → Bool) (cn : Nat) (ss : List (List UInt8)), Hid (wr.ranges Try.prog 88 asIs b W.heap.size n D left cn ∧ wr.ownsRow W.heap.size 9 1 nv ss.length (ss.map encStr) ∧ ss.Nodup ∧ (∀ s, s ∈ ss ↔ ∃ x ∈ cl, x.kind = kind ∧ x.name.data.toList = s ∧ left (kOf kind x.name) = false) ∧ (∀ kl, left kl = true → Maps.has D kl = true) ∧ Below W.heap.size W wr)) (fun _ wr => wr.rangeLeft b W.heap.size)
  case atStart => exact ⟨_, _, [], h0s⟩
  case round =>
    clear h0s e0 e1 e2
    obtain ⟨left, cn, ss, hE⟩ := hrel
    obtain ⟨A1, c1, ev1, _⟩ := id (Sl.of_own hE.out.2.1)
    subst ev1
    go_wp2_with (at_next; refine wpList_next_ranges _ rfl _ rfl 88 stK asIs id id (fun key kl _ => ⟨key, rfl⟩) (fun v y _ => ⟨v, rfl⟩) b W.heap.size n D left cn rfl hE.out.1 ?_ ?_)
    · intro hc0 hl0
      have hnm : ss.mergeSort leB = nms cl kind := nms_of HP.out.2.2.1.uniq hE.out.2.2.1 fun s => by
        rw [hE.out.2.2.2.1]
        simp [hl0]
      have hssl : ss.length = (nms cl kind).length := by rw [← hnm]; simp
      have hlen : (nms cl kind).length ≤ 100000 := by
        refine Nat.le_trans ?_ hcl
        have h1 := List.Nodup.length_le_of_subset (l₂ := cl.map fun x : Ob => x.name.data.toList) (nms_nodup HP.out.2.2.1.uniq kind) fun s hs => by
          obtain ⟨x, hx, _, hn⟩ := nms_mem.1 hs
          exact List.mem_map.2 ⟨x, hx, hn⟩
        rwa [List.length_map] at h1
      have hso := sort_own wr W.heap.size _ ss hE.out.2.1 (by omega)
      rw [hnm] at hso
      have HSO := Lib.hid (And.intro hso (And.intro hE.out.2.1 hE.out.2.2.2.2.2))
      have HN := Lib.hid (And.intro hssl hlen)
      clear hso hnm hlen hl0 hc0 hE hssl
      go_wp2_with fail
      rw [HQC.out]
      simp only [Exit.then]
      refine wpIn_seq ?_
      refine wpIn_wide.2 ?_
      refine wp_hide fun QD HQD => ?_
      go_wp2_with fail
      refine HSO.out.1.mono ?_
      rintro e wS ⟨rfl, hown, hgr⟩
      have hBS : Below W.heap.size W wS := below_grown HSO.out.2.2 HSO.out.2.1 hgr HSO.out.2.2.size (Nat.le_refl _)
      rw [HN.out.1] at hown
      have HS := Lib.hid (And.intro hown hBS)
      clear hown hBS hgr
      go_wp2_with fail
      rw [HQD.out]
      simp only [Exit.then]
      obtain ⟨L, hL⟩ : ∃ L, L = nms cl kind := ⟨_, rfl⟩
      obtain ⟨N, hN⟩ : ∃ N, N = ss.length := ⟨_, rfl⟩
      have HLN := Lib.hid (show L = nms cl kind ∧ L.length = N ∧ N ≤ 100000 from ⟨hL, by rw [hL, hN, HN.out.1], by rw [hN, HN.out.1]; exact HN.out.2⟩)
      have hrow : wS.ownsRow W.heap.size 9 1 (.slice A1 N c1) N (L.map encStr) := by
        have := HS.out.1
        rw [← HN.out.1, ← hN, ← hL] at this
        exact this
      rw [← hN]
      have hNle := HLN.out.2.2
      have h0S : Hid (J [] wS ∧ wS.ownsRow W.heap.size 9 1 (.slice A1 N c1) N (L.map encStr) ∧ (wS.cell? ⟨bs, 0, none⟩ = some (.pointer (some ⟨p, 0, none⟩)) ∧ wS.cell? ⟨bk, 0, none⟩ = some (.int .i64 kind) ∧ UInv p b bs bk (.slice A1 N c1) wS) ∧ W.heap.size ≤ wS.heap.size) := by
        refine ⟨HJ.out.1 [] W wS none HJ.out.2.2.1 ⟨HS.out.2.os, HS.out.2.tape, HS.out.2.output, HS.out.2.size, fun k hk _ => HS.out.2.block k hk⟩ (fun r e => by cases e), hrow, ?_, HS.out.2.size⟩
        have b9 := HP.out.2.2.2.2.2.1.trans (HS.out.2.mono HP.out.2.2.2.2.2.1.size)
        have hn9 := HP.out.2.2.2.2.2.2
        obtain ⟨hp3, ⟨hne1, hne2, hne3⟩, _⟩ := HJ.out.2.2.2.2.2
        refine ⟨keep_cell b9 HP.out.2.2.2.1, keep_cell b9 HP.out.2.2.2.2.1, ev0, keep_cell b9 hp3, hne1, hne2, fun g hg hps => ?_⟩
        have h1 := (hrow.lt g hg).1
        have h2 := hne3 g hps
        have h3 := HP.out.2.2.2.2.2.1.size
        omega
      clear hL hN hrow HS HSO HN
      gi_wp2
      gi_loopw [32] (fun iv wr => ∃ pre : List Ob, pre.length ≤ N ∧ iv = .int .i64 pre.length ∧ Hid (J pre wr ∧ wr.ownsRow W.heap.size 9 1 (.slice A1 N c1) N (L.map encStr) ∧ (wr.cell? ⟨bs, 0, none⟩ = some (.pointer (some ⟨p, 0, none⟩)) ∧ wr.cell? ⟨bk, 0, none⟩ = some (.int .i64 kind) ∧ UInv p b bs bk (.slice A1 N c1) wr) ∧ W.heap.size ≤ wr.heap.size)) (fun iv wr => N - (intOf iv).toNat)
      case atStart => exact ⟨[], Nat.zero_le _, rfl, h0S⟩
      case round =>
        clear h0S
        obtain ⟨pre, hk, rfl, hE⟩ := hrel
        by_cases hlt : pre.length < N
        · obtain ⟨g, cap, cur, eA, hg, hkg, h1, h2, h3, h4⟩ := own_parts hE.out.2.1 (by omega)
          injection eA with eA1 eA2 eA3
          subst eA1
          subst eA3
          have hkL : pre.length < L.length := by rw [HLN.out.2.1]; exact hlt
          obtain ⟨z, hz, hzk, hzn⟩ := nms_mem.1 (show L[pre.length] ∈ nms (C pre) kind by rw [nms_keys (HJ.out.2.2.2.2.1 pre), ← HLN.out.1]; exact List.getElem_mem hkL)
          have c0 : wr.cell? ⟨g, pre.length, none⟩ = some (.string z.name) := by
            rw [hkg.cell, ← Array.getElem?_toList]
            have e : (cur.toList.take (N * 1))[pre.length]? = (L.map encStr)[pre.length]? := by rw [h4]
            rw [List.getElem?_take_of_lt (by omega), List.getElem?_map, List.getElem?_eq_getElem hkL, ← hzn] at e
            rw [e]
            simp [encStr]
          have hge : (0 : Int) ≤ (pre.length : Int) := by omega
          have hlt2 : (pre.length : Int) < (N : Int) := by omega
          obtain ⟨evs1, n1, D1, ev1, st1, R1, _⟩ := HJ.out.2.2.2.1 pre wr hE.out.1
          obtain ⟨_, y, hval, hyw, hynf⟩ := R1.at1 z hz
          have k1 := hE.out.2.2.1.1
          have k2 := st1.cells.2.1
          have k3 := hE.out.2.2.1.2.1
          have k4 := st1.2.2.1
          have hkey := keyOf_st z.kind z.name (R1.ok _ (mem_keys hz)).1 (R1.ok _ (mem_keys hz)).2
          have HY := Lib.hid (And.intro hyw (And.intro hynf (And.intro hz (And.intro hzk hzn))))
          have HVAL := Lib.hid hval
          have HK := Lib.hid (And.intro k1 (And.intro k2 (And.intro k3 k4)))
          clear hval hynf hyw st1 R1 k1 k2 k3 k4 h1 h2 h3 h4 hkg hzn hz
          subst hzk
          gi_wp2
          refine wpIn_region_sched ⟨fun _ => trivial, fun _ _ _ _ => rfl⟩ [0, 1, 2, 3, 4, 5, 6, 7] [8, 9, 10, 11] [] (fun i => !(i == 1 || i == 4 || i == 5)) (fun w' => w'.cell? ⟨bs, 0, none⟩ = some (.pointer (some ⟨p, 0, none⟩)) ∧ w'.cell? ⟨p, 1, none⟩ = some (.map (some b)) ∧ w'.cell? ⟨bk, 0, none⟩ = some (.int .i64 z.kind)) (by kernel_rfl) (by kernel_rfl) (fun c a d v w h => by cases d <;> exact h) ⟨HK.out.1, HK.out.2.1, HK.out.2.2.1⟩ fun u0 Hu => ?_
          refine readsI_free (v := ?_) (by rfl) (by rfl) (fun w' => ?_) ?_
          rotate_left
          · go_simp
            with_reducible rfl
          simp only [Act.put, List.setIfInBounds_toArray, List.set_cons_zero, List.set_cons_succ, List.getElem_toArray, List.getElem_cons_succ, List.getElem_cons_zero]
          refine readsI_step (v := ?_) (by rfl) (by rfl) (by rfl) (fun w' hS => ?_) ?_
          rotate_left
          · have u1 := hS.1
            have u2 := hS.2.1
            have u3 := hS.2.2
            clear hS
            go_simp
            with_reducible rfl
          simp only [Act.put, List.setIfInBounds_toArray, List.set_cons_zero, List.set_cons_succ, List.getElem_toArray, List.getElem_cons_succ, List.getElem_cons_zero]
          refine readsI_free (v := ?_) (by rfl) (by rfl) (fun w' => ?_) ?_
          rotate_left
          · go_simp
            with_reducible rfl
          simp only [Act.put, List.setIfInBounds_toArray, List.set_cons_zero, List.set_cons_succ, List.getElem_toArray, List.getElem_cons_succ, List.getElem_cons_zero]
          refine readsI_free (v := ?_) (by rfl) (by rfl) (fun w' => ?_) ?_
          rotate_left
          · go_simp
            with_reducible rfl
          simp only [Act.put, List.setIfInBounds_toArray, List.set_cons_zero, List.set_cons_succ, List.getElem_toArray, List.getElem_cons_succ, List.getElem_cons_zero]
          refine readsI_step (v := ?_) (by rfl) (by rfl) (by rfl) (fun w' hS => ?_) ?_
          rotate_left
          · have u1 := hS.1
            have u2 := hS.2.1
            have u3 := hS.2.2
            clear hS
            go_simp
            with_reducible rfl
          simp only [Act.put, List.setIfInBounds_toArray, List.set_cons_zero, List.set_cons_succ, List.getElem_toArray, List.getElem_cons_succ, List.getElem_cons_zero]
          refine readsI_step (v := ?_) (by rfl) (by rfl) (by rfl) (fun w' hS => ?_) ?_
          rotate_left
          · have u1 := hS.1
            have u2 := hS.2.1
            have u3 := hS.2.2
            clear hS
            go_simp
            with_reducible rfl
          simp only [Act.put, List.setIfInBounds_toArray, List.set_cons_zero, List.set_cons_succ, List.getElem_toArray, List.getElem_cons_succ, List.getElem_cons_zero]
          refine readsI_free (v := ?_) (by rfl) (by rfl) (fun w' => ?_) ?_
          rotate_left
          · go_simp
            with_reducible rfl
          simp only [Act.put, List.setIfInBounds_toArray, List.set_cons_zero, List.set_cons_succ, List.getElem_toArray, List.getElem_cons_succ, List.getElem_cons_zero]
          refine readsI_free (v := ?_) (by rfl) (by rfl) (fun w' => ?_) ?_
          rotate_left
          · go_simp
            with_reducible rfl
          simp only [Act.put, List.setIfInBounds_toArray, List.set_cons_zero, List.set_cons_succ, List.getElem_toArray, List.getElem_cons_succ, List.getElem_cons_zero]
          refine readsI_nil ?_
          have bu : Below wr.heap.size wr u0 := by
            rw [Hu.out]
            exact (Below.refl _ _).drew
          have hSu : u0.cell? ⟨bs, 0, none⟩ = some (.pointer (some ⟨p, 0, none⟩)) ∧ u0.cell? ⟨p, 1, none⟩ = some (.map (some b)) ∧ u0.cell? ⟨bk, 0, none⟩ = some (.int .i64 z.kind) ∧ Mp Try.prog u0 88 b n1 D1 := ⟨keep_cell bu HK.out.1, keep_cell bu HK.out.2.1, keep_cell bu HK.out.2.2.1, HK.out.2.2.2.below bu⟩
          have hyu := HY.out.1.ok.below bu
          have HU0 := Lib.hid (And.intro bu hSu)
          clear bu hSu Hu
          refine earlyI_run ⟨fun _ => trivial, fun _ _ _ _ => rfl⟩ (v := .agg y.cells.toArray) (w1 := u0) (by rfl) (by rfl) (by
            have hl := HU0.out.2.2.2.2.run_look stK underSt (zero47 u0) hkey
            rw [HVAL.out] at hl
            go_simp) ⟨HU0.out.2.1, HU0.out.2.2.1, HU0.out.2.2.2.1⟩ ?_
          simp only [Act.put, List.setIfInBounds_toArray, List.set_cons_zero, List.set_cons_succ, List.getElem_toArray, List.getElem_cons_succ, List.getElem_cons_zero]
          refine earlyI_call ⟨fun _ => trivial, fun _ _ _ _ => rfl⟩ (R := fun v w' => ∃ V, v = .agg (y.reval V).cells.toArray ∧ y.News w' (u0.heap.size + 3) V ∧ Below u0.heap.size u0 w') 27 #[.agg y.cells.toArray] (by rfl) (by rfl) (by go_simp) (fun h => by cases h) ((callsIn_wide.2 (vclone_any y u0 hyu)).mono fun e w' ⟨V, he, hn, hb⟩ => ⟨_, he, V, rfl, hn, hb⟩) ?_
          rintro v wC ⟨V, rfl, hnews, bC⟩
          obtain ⟨bu, hSu⟩ := HU0.out
          refine ⟨⟨keep_cell bC hSu.1, keep_cell bC hSu.2.1, keep_cell bC hSu.2.2.1⟩, ?_⟩
          have bwC := below_tr bu bC
          have hTC : (wC.cell? ⟨bs, 0, none⟩ = some (.pointer (some ⟨p, 0, none⟩)) ∧ wC.cell? ⟨bk, 0, none⟩ = some (.int .i64 z.kind) ∧ UInv p b bs bk (.slice (some ⟨g, 0, none⟩) N c1) wC) ∧ wC.cell? ⟨p, 1, none⟩ = some (.map (some b)) := by
            obtain ⟨⟨t1, t2, ev9, t3, t4⟩, _⟩ := hE.out.2.2
            exact ⟨⟨keep_cell bwC t1, keep_cell bwC t2, ev9, keep_cell bwC t3, t4⟩, keep_cell bC hSu.2.1⟩
          have hJC := HJ.out.1 pre wr wC none hE.out.1 ⟨bwC.os, bwC.tape, bwC.output, bwC.size, fun k hk _ => bwC.block k hk⟩ (fun r e => by cases e)
          have hxok := hyu.fit.ok hnews
          obtain ⟨x, hx⟩ : ∃ x, x = y.reval V := ⟨_, rfl⟩
          have hnfx : nf x = nf z := by rw [hx, nf_reval]; exact HY.out.2.1
          rw [← hx] at hxok ⊢
          clear hx
          obtain ⟨fn, tmps, assign, body, hy, hR⟩ := HJ.out.2.1 pre x wC hJC ⟨z, HY.out.2.2.1, rfl, by rw [nms_keys (HJ.out.2.2.2.2.1 pre), ← HLN.out.1, List.getElem?_eq_getElem hkL, HY.out.2.2.2.2], hnfx, hxok⟩
          have hown := own_below hE.out.2.1 bwC
          have HC := Lib.hid (And.intro hTC (And.intro hown (And.intro bwC.size hE.out.2.2.2)))
          clear hTC hown bwC hJC hxok hnfx hSu bu bC hnews hyu hE HU0 HY
          simp only [Act.put, List.setIfInBounds_toArray, List.set_cons_zero, List.set_cons_succ, List.getElem_toArray, List.getElem_cons_succ, List.getElem_cons_zero]
          refine earlyI_round ⟨fun _ => trivial, fun _ _ _ _ => rfl⟩ (R := fun v w' => (v = .bool true ∧ J (pre ++ [x]) w' ∧ KeepU n₀ p b G wC w') ∨ (v = .bool false ∧ Jx (pre ++ [x]) w' ∧ KeepU n₀ p b G wC w')) (l := l) (fn := fn) (tmps := tmps) (assign := assign) (body := body) (by rfl) (by rfl) (by first | (go_simp; exact hy) | go_simp) (fun h => by cases h) (RoundIn.mono hR fun e w' he => ?_) ?_
          · rcases he with ⟨rfl, h⟩ | ⟨rfl, h⟩
            · exact ⟨_, rfl, .inl ⟨rfl, h⟩⟩
            · exact ⟨_, rfl, .inr ⟨rfl, h⟩⟩
          intro v w9 hv
          have hk9 : KeepU n₀ p b G wC w9 := by
            rcases hv with ⟨_, _, h⟩ | ⟨_, _, h⟩ <;> exact h
          obtain ⟨⟨t1, t2, ev9, t3, t4, t5, t6⟩, t7⟩ := HC.out.1
          have hbsl := World.block_lt_of_cell? _ _ HP.out.2.2.2.1
          have hbkl := World.block_lt_of_cell? _ _ HP.out.2.2.2.2.1
          have hn9 := HP.out.2.2.2.2.2.2
          obtain ⟨_, _, hGl, hGs, hGk⟩ := HJ.out.2.2.2.2.2
          have hin9 := hk9.inv t3
          have hS9 : w9.cell? ⟨bs, 0, none⟩ = some (.pointer (some ⟨p, 0, none⟩)) ∧ w9.cell? ⟨p, 1, none⟩ = some (.map (some b)) ∧ w9.cell? ⟨bk, 0, none⟩ = some (.int .i64 z.kind) :=
            ⟨hk9.cell t3 t1 (by simp only at hbsl ⊢; omega) t4 hGs, hk9.2.2.2.2.1 _ t7, hk9.cell t3 t2 (by simp only at hbkl ⊢; omega) t5 hGk⟩
          have hown9 : w9.ownsRow W.heap.size 9 1 (.slice (some ⟨g, 0, none⟩) N c1) N (L.map encStr) := own_block HC.out.2.1 fun g' hg' => by
            have h1 := HC.out.2.1.lt g' hg'
            have h6 := t6 g' hg'
            injection hg' with hg'
            subst hg'
            obtain ⟨g2, cap2, cur2, e2, _, hk2, _⟩ := own_parts HC.out.2.1 (by omega)
            injection e2 with e2
            injection e2 with e2
            injection e2 with e2
            subst e2
            have hWs := HP.out.2.2.2.2.2.1.size
            exact (hk9.frame t3 hk2 (.inr rfl) h6 (fun h => by have h8 := hGl _ h; have h9 := h1.1; omega)).trans hk2.symm
          have hinv9 : UInv p b bs bk (.slice (some ⟨g, 0, none⟩) N c1) w9 := by
            obtain ⟨ev8, q1, q2⟩ := hin9
            refine ⟨ev8, q1, fun h => t4 (ps_to q2 _ (World.block_lt_of_cell? _ _ t1) h), fun h => t5 (ps_to q2 _ (World.block_lt_of_cell? _ _ t2) h), fun g' hg' h => t6 g' hg' (ps_to q2 _ (HC.out.2.1.lt g' hg').2 h)⟩
          refine ⟨hS9, ?_⟩
          have H9 := Lib.hid (And.intro (And.intro hS9.1 (And.intro hS9.2.2 hinv9)) (And.intro hown9 (Nat.le_trans HC.out.2.2.2 (Nat.le_trans HC.out.2.2.1 hk9.2.2.2.1))))
          clear hk9 hinv9 hin9 hown9 HC hR hy t1 t2 t3 t4 t5 t6 t7 hbsl hbkl hGl hGs hGk
          simp only [Act.put, List.setIfInBounds_toArray, List.set_cons_zero, List.set_cons_succ, List.getElem_toArray, List.getElem_cons_succ, List.getElem_cons_zero]
          rcases hv with ⟨rfl, hJ9, _⟩ | ⟨rfl, hJ9, _⟩
          · refine earlyI_run ⟨fun _ => trivial, fun _ _ _ _ => rfl⟩ (v := .bool false) (w1 := w9) (by rfl) (by rfl) (by go_simp) hS9 ?_
            simp only [Act.put, List.setIfInBounds_toArray, List.set_cons_zero, List.set_cons_succ, List.getElem_toArray, List.getElem_cons_succ, List.getElem_cons_zero]
            refine earlyI_nil ?_
            simp only [List.filterMap_nil]
            have HJ9 := Lib.hid hJ9
            clear hJ9 hS9
            gi_wp2
            go_roundw
            case rel => exact ⟨pre ++ [x], by simp; omega, by simp, ⟨HJ9.out, H9.out.2.1, H9.out.1, H9.out.2.2⟩⟩
            case measure => simp [intOf]; omega
          · refine earlyI_run ⟨fun _ => trivial, fun _ _ _ _ => rfl⟩ (v := .bool true) (w1 := w9) (by rfl) (by rfl) (by go_simp) hS9 ?_
            simp only [Act.put, List.setIfInBounds_toArray, List.set_cons_zero, List.set_cons_succ, List.getElem_toArray, List.getElem_cons_succ, List.getElem_cons_zero]
            refine earlyI_nil ?_
            simp only [List.filterMap_nil]
            have HJ9 := Lib.hid hJ9
            clear hJ9 hS9
            gi_wp2
            refine bodyPost_ret (results_none rfl _ _ _) rfl ?_
            exact ⟨⟨_, rfl⟩, .inr ⟨_, HJ9.out⟩⟩
        · have hke : pre.length = N := by omega
          have hJe := hE.out.1
          clear hE
          gi_wp2
          go_end0
          exact ⟨⟨_, rfl⟩, .inl ⟨pre, by rw [hke, ← HLN.out.2.1, HLN.out.1], hJe⟩⟩
    · intro x cv kl y1 y2 w1 cn1 hkey hlk hv hat hrg1 hlt hg1 hs1 hen
      try simp only [id] at hkey
      try simp only [id] at hv
      try simp only [id] at hen
      obtain ⟨⟨yk, yn⟩, hyk, rfl, rfl⟩ := key_inv hkey
      simp only at hen hlk hrg1
      have hykc : (yk, yn) ∈ keys cl := by
        refine Classical.byContradiction fun hno => ?_
        have h1 := HP.out.2.2.1.at0 (yk, yn) hyk hno
        rw [hE.out.2.2.2.2.1 _ hlk] at h1
        cases h1
      obtain ⟨z, hz, ez⟩ := List.mem_map.1 hykc
      have hssl : ss.length ≤ cl.length := by
        have h1 := List.Nodup.length_le_of_subset (l₂ := cl.map fun x : Ob => x.name.data.toList) hE.out.2.2.1 fun s hs => by
          obtain ⟨x, hx, _, hn, _⟩ := (hE.out.2.2.2.1 s).1 hs
          exact List.mem_map.2 ⟨x, hx, hn⟩
        rwa [List.length_map] at h1
      have hBw : Below W.heap.size W w1 := ⟨hg1.os.trans hE.out.2.2.2.2.2.os, hg1.tape.trans hE.out.2.2.2.2.2.tape, hg1.output.trans hE.out.2.2.2.2.2.output, Nat.le_trans hE.out.2.2.2.2.2.size hg1.size, fun i hi => (hg1.block i (Nat.lt_of_lt_of_le hi hE.out.2.2.2.2.2.size) (by simp; omega)).trans (hE.out.2.2.2.2.2.block i hi)⟩
      have BA := below_al w1 (.cells #[.int .i64 yk, .string yn] 88)
      have hBA : Below W.heap.size W (w1.alloc (.cells #[.int .i64 yk, .string yn] 88)) := hBw.trans (BA.mono hBw.size)
      have e1 : (w1.alloc (.cells #[.int .i64 yk, .string yn] 88)).cell? ⟨bk, 0, none⟩ = some (.int .i64 kind) := keep_cell hBA (keep_cell HP.out.2.2.2.2.2.1 HP.out.2.2.2.2.1)
      have hrow1 : w1.ownsRow W.heap.size 9 1 (.slice A1 ss.length c1) ss.length (ss.map encStr) := own_block hE.out.2.1 fun g hg => hg1.block g (hE.out.2.1.lt g hg).2 (fun e => by
        injection e with e
        exact Go.row_ne_iter hE.out.2.1 hE.out.1 (by rw [← e]; exact hg.symm))
      have hsame : ∀ x ∈ cl, x.kind = kind → (kOf kind x.name).sameKey (kOf yk yn) = decide ((yk, yn) = (kind, x.name)) := fun x hx hk => by
        by_cases e : (yk, yn) = (kind, x.name)
        · obtain ⟨rfl, rfl⟩ := Prod.mk.inj e
          rw [WideAt.sameKey_self (keyLit_kOf _ _)]
          simp
        · have hkx : KeyOk (kind, x.name) := hk ▸ HP.out.2.2.1.ok _ (mem_keys hx)
          rw [Maps.sameKey_ne (kOf_ne hkx hyk (fun e' => e e'.symm))]
          simp [e]
      have hHE := Lib.hid (And.intro hrg1 (And.intro hrow1 (And.intro hE.out.2.2.1 (And.intro hE.out.2.2.2.1 (And.intro hE.out.2.2.2.2.1 (And.intro hBA (And.intro hE.out.1 hlt)))))))
      have HKK := Lib.hid (And.intro hlk (And.intro hsame (And.intro hz ez)))
      have hssl2 : ss.length ≤ 100000 := Nat.le_trans hssl hcl
      clear hrg1 hrow1 hE hlk hat hv hkey hBw hBA BA hlt hg1 hs1 hykc hz ez hsame hssl
      by_cases hk : yk = kind
      · subst hk
        have hnew : ss.Nodup ∧ yn.data.toList ∉ ss := ⟨hHE.out.2.2.1, fun hs => by
          obtain ⟨x, hx, hxk, hxn, hxl⟩ := (hHE.out.2.2.2.1 _).1 hs
          rw [bytes_inj hxn, HKK.out.1] at hxl
          cases hxl⟩
        have hstr : encStr yn.data.toList = .string yn := by simp [encStr]
        have HN := Lib.hid (And.intro hnew hstr)
        clear hnew hstr
        obtain ⟨WA, hWA⟩ : ∃ WA, WA = (w1.alloc (.cells #[.int .i64 yk, .string yn] 88)).alloc (.cells #[.string yn] 9) := ⟨_, rfl⟩
        have BB : Below w1.heap.size w1 WA := by rw [hWA]; exact below_tr (below_al _ _) (below_al _ _)
        have hsl : Sl WA 1 (.slice (some ⟨w1.heap.size + 1, 0, none⟩) 1 1) 1 [.string yn] := by
          have h := Sl.made (w1.alloc (.cells #[.int .i64 yk, .string yn] 88)) #[.string yn] 9 (size := 1) 1 1 (Nat.le_refl _) rfl
          rw [World.size_alloc, ← hWA] at h
          exact h
        have HAP := Lib.hid (And.intro (own_below hHE.out.2.1 BB) (And.intro hsl (And.intro BB (show W.heap.size ≤ WA.heap.size by have h1 := hHE.out.2.2.2.2.2.1.size; have h2 := BB.size; rw [World.size_alloc] at h1; rw [hWA, World.size_alloc, World.size_alloc]; omega))))
        have HWA := Lib.hid hWA.symm
        clear hsl BB hWA
        go_wp2_with (at_builtin; rw [HWA.out]; refine wpl_append rfl _ _ _ rfl W.heap.size 9 _ 1 16 Try.underlying95 info_str rfl (by omega) (by omega) (.slice A1 ss.length c1) ss.length (ss.map encStr) rfl HAP.out.1 _ 1 [.string yn] rfl HAP.out.2.1 (by intro u hu; simp at hu; subst hu; rfl) (by omega) HAP.out.2.2.2 ?_; intro v' w6 hown6 hgrow6 hfrom6)
        have hr6 : w6.ranges Try.prog 88 asIs b W.heap.size n D (fun z => left z && !z.sameKey (kOf yk yn)) cn1 :=
          (ranges_below hHE.out.1 HAP.out.2.2.1).kept hgrow6 (Go.row_ne_low HAP.out.1 HMW.out.lt) (Go.row_ne_iter HAP.out.1 (ranges_below hHE.out.1 HAP.out.2.2.1))
        have hB6 : Below W.heap.size W w6 := below_grown (hHE.out.2.2.2.2.2.1.trans ((below_al _ _).mono hHE.out.2.2.2.2.2.1.size) |> fun h => by rw [← HWA.out]; exact h) HAP.out.1 hgrow6 HAP.out.2.2.2 (Nat.le_refl _)
        have hE6 : Hid (w6.ranges Try.prog 88 asIs b W.heap.size n D (fun z => left z && !z.sameKey (kOf yk yn)) cn1 ∧ w6.ownsRow W.heap.size 9 1 v' (ss ++ [yn.data.toList]).length ((ss ++ [yn.data.toList]).map encStr) ∧ (ss ++ [yn.data.toList]).Nodup ∧ (∀ s, s ∈ ss ++ [yn.data.toList] ↔ ∃ x ∈ cl, x.kind = yk ∧ x.name.data.toList = s ∧ (fun z => left z && !z.sameKey (kOf yk yn)) (kOf yk x.name) = false) ∧ (∀ kl, (fun z => left z && !z.sameKey (kOf yk yn)) kl = true → Maps.has D kl = true) ∧ Below W.heap.size W w6) := by
          refine ⟨hr6, ?_, ?_, fun s => ?_, fun kl h => hHE.out.2.2.2.2.1 kl (by simp at h; exact h.1), hB6⟩
          · rw [List.length_append, List.map_append, List.map_cons, List.map_nil, HN.out.2]
            exact hown6
          · refine List.nodup_append.2 ⟨HN.out.1.1, by simp, fun a ha c hc e => HN.out.1.2 ?_⟩
            simp only [List.mem_cons, List.not_mem_nil, or_false] at hc
            rw [← hc, ← e]
            exact ha
          · rw [List.mem_append, hHE.out.2.2.2.1]
            constructor
            · rintro (⟨x, hx, hk, hn, hl⟩ | h)
              · exact ⟨x, hx, hk, hn, by simp only [hl, Bool.false_and]⟩
              · simp only [List.mem_cons, List.not_mem_nil, or_false] at h
                obtain ⟨h1, h2⟩ := Prod.mk.inj HKK.out.2.2.2
                refine ⟨z, HKK.out.2.2.1, h1, by rw [h2, h], ?_⟩
                show (left (kOf yk z.name) && !(kOf yk z.name).sameKey (kOf yk yn)) = false
                rw [h2, WideAt.sameKey_self (keyLit_kOf _ _)]
                simp
            · rintro ⟨x, hx, hk, hn, hl⟩
              have hl' : (left (kOf yk x.name) && !(kOf yk x.name).sameKey (kOf yk yn)) = false := hl
              rw [HKK.out.2.1 x hx hk] at hl'
              by_cases e : yn = x.name
              · right
                simp [e, hn]
              · left
                refine ⟨x, hx, hk, hn, ?_⟩
                have : decide ((yk, yn) = (yk, x.name)) = false := by simp [e]
                rw [this] at hl'
                simpa using hl'
        exact ⟨⟨_, cn1, _, hE6⟩, by rw [hr6.left_eq, hHE.out.2.2.2.2.2.2.1.left_eq]; exact hHE.out.2.2.2.2.2.2.2⟩
      · go_wp2_with fail
        have hr6 := ranges_below hHE.out.1 (below_al w1 (.cells #[.int .i64 yk, .string yn] 88))
        have hE6 : Hid ((w1.alloc (.cells #[.int .i64 yk, .string yn] 88)).ranges Try.prog 88 asIs b W.heap.size n D (fun z => left z && !z.sameKey (kOf yk yn)) cn1 ∧ (w1.alloc (.cells #[.int .i64 yk, .string yn] 88)).ownsRow W.heap.size 9 1 (.slice A1 ss.length c1) ss.length (ss.map encStr) ∧ ss.Nodup ∧ (∀ s, s ∈ ss ↔ ∃ x ∈ cl, x.kind = kind ∧ x.name.data.toList = s ∧ (fun z => left z && !z.sameKey (kOf yk yn)) (kOf kind x.name) = false) ∧ (∀ kl, (fun z => left z && !z.sameKey (kOf yk yn)) kl = true → Maps.has D kl = true) ∧ Below W.heap.size W (w1.alloc (.cells #[.int .i64 yk, .string yn] 88))) := by
          refine ⟨hr6, own_below hHE.out.2.1 (below_al _ _), hHE.out.2.2.1, fun s => ?_, fun kl h => hHE.out.2.2.2.2.1 kl (by simp at h; exact h.1), hHE.out.2.2.2.2.2.1⟩
          rw [hHE.out.2.2.2.1]
          refine exists_congr fun x => and_congr_right fun hx => and_congr_right fun hkx => and_congr_right fun _ => ?_
          show _ ↔ (left (kOf kind x.name) && !(kOf kind x.name).sameKey (kOf yk yn)) = false
          rw [HKK.out.2.1 x hx hkx]
          have : decide ((yk, yn) = (kind, x.name)) = false := by simp [hk]
          rw [this]
          simp
        exact ⟨⟨_, cn1, _, hE6⟩, by rw [hr6.left_eq, hHE.out.2.2.2.2.2.2.1.left_eq]; exact hHE.out.2.2.2.2.2.2.2⟩
theorem list_ups (m : Nat) (hm : 1 ≤ m) {p b n bs bk : Nat} {D : DataW Value} {ev0 : Value} {most : Int} {B : Nat} {G : Nat → Prop} {C : List Ob → List Ob} {cl : List Ob} (kind : Int) (hcl : cl.length ≤ 100000) (w : World) (hp : w.cell? ⟨p, 1, none⟩ = some (.map (some b))) (hmp : Mp Try.prog w 88 b n D) (R : SRel D (PS p b ev0) w cl) (hbs : w.cell? ⟨bs, 0, none⟩ = some (.pointer (some ⟨p, 0, none⟩))) (hbk : w.cell? ⟨bk, 0, none⟩ = some (.int .i64 kind))
    (hp3 : w.cell? ⟨p, 3, none⟩ = some ev0) (hne : ¬ PS p b ev0 bs ∧ ¬ PS p b ev0 bk ∧ ∀ g, PS p b ev0 g → g < w.heap.size) (hG : (∀ j, G j → j < w.heap.size) ∧ ¬ G bs ∧ ¬ G bk) (hC : ∀ pre, keys (C pre) = keys cl) :
    SeqUps Fence.wide m Try.prog 30 #[.pointer (some ⟨bs, 0, none⟩), .pointer (some ⟨bk, 0, none⟩)] (fun x : Ob => #[Value.agg x.cells.toArray]) (fun pre W1 => ∃ evs, S8 B W1 p b most evs (C pre)) (KeepU w.heap.size p b G) (fun pre x W1 => KnL (C pre) kind pre x W1) (fun ys => ys.length = (nms cl kind).length) w := fun l J Jx W hW hJ _ hQ hY h0 =>
  ups_in m hm l p b n bs bk w.heap.size D ev0 most B G C cl kind hcl J Jx w W hW rfl hp hmp R hbs hbk hp3 hne hG hQ hC hJ hY h0
end Go.Proofs.Ytoobjfpkdlffpaa
end
section
namespace Go.Proofs.Ytoobjfpkdlffpaa
open Go.RowKit Go.Proofs.Mem
set_option linter.unusedVariables false
set_option linter.unusedSimpArgs false
def nextPd (p : Pd) (now : Int) (there : Bool) : Pd :=
  if p.phase = 3 then p
  else if p.node ≠ ByteArray.empty ∧ there = false then { p with phase := 3, since := now }
  else if p.phase = 1 ∧ p.since ≤ now - p.warm then { p with phase := 2, since := p.since + p.warm }
  else p
theorem next_cases (p : Pd) (now : Int) (there : Bool) :
    (p.phase = 3 ∧ nextPd p now there = p) ∨
    (p.phase ≠ 3 ∧ p.node ≠ ByteArray.empty ∧ there = false ∧ nextPd p now there = { p with phase := 3, since := now }) ∨
    (p.phase ≠ 3 ∧ (p.node = ByteArray.empty ∨ (p.node ≠ ByteArray.empty ∧ there = true)) ∧
      ((p.phase = 1 ∧ p.since ≤ now - p.warm ∧ nextPd p now there = { p with phase := 2, since := p.since + p.warm }) ∨ (p.phase = 1 ∧ ¬ p.since ≤ now - p.warm ∧ nextPd p now there = p) ∨ (p.phase ≠ 1 ∧ nextPd p now there = p))) := by
  unfold nextPd
  by_cases h1 : p.phase = 3
  · left; exact ⟨h1, by simp [h1]⟩
  · right
    by_cases h2 : p.node = ByteArray.empty
    · right
      refine ⟨h1, .inl h2, ?_⟩
      by_cases h3 : p.phase = 1
      · by_cases h4 : p.since ≤ now - p.warm
        · left; exact ⟨h3, h4, by simp [h2, h3, h4]⟩
        · right; left; exact ⟨h3, h4, by simp [h2, h3, h4]⟩
      · right; right; exact ⟨h3, by simp [h1, h2, h3]⟩
    · cases there
      · left; exact ⟨h1, h2, rfl, by simp [h1, h2]⟩
      · right
        refine ⟨h1, .inr ⟨h2, rfl⟩, ?_⟩
        by_cases h3 : p.phase = 1
        · by_cases h4 : p.since ≤ now - p.warm
          · left; exact ⟨h3, h4, by simp [h3, h4]⟩
          · right; left; exact ⟨h3, h4, by simp [h3, h4]⟩
        · right; right; exact ⟨h3, by simp [h1, h3]⟩
theorem str_ne {s : ByteArray} (h : s ≠ ByteArray.empty) : (s.toList == ([] : List UInt8)) = false := by
  cases e : s.toList == ([] : List UInt8)
  · rfl
  · exfalso
    apply h
    have e' : s.toList = [] := by simpa using e
    rw [ByteArray.toList_eq] at e'
    apply ByteArray.ext
    apply Array.toList_inj.1
    rw [e']
    rfl
def tickR (n : Int) : Prop := -10000 ≤ n ∧ n ≤ 4611686018427397904
set_option maxHeartbeats 4000000 in
set_option maxRecDepth 100000 in
theorem next_any (p : Pd) (now : Int) (there : Bool) (w : World) (ho : p.Ok w) (hn : tickR now) (hs : tickR p.since) (hw : 0 ≤ p.warm ∧ p.warm ≤ 1800) :
    Calls Try.prog 23 #[.agg p.cells.toArray, .int .i64 now, .bool there] w fun e w' => e = .returned (.agg (nextPd p now there).cells.toArray) ∧ Below w.heap.size w w' := by
  have hcs := next_cases p now there
  obtain ⟨owner, node, phase, since, cpu, mem, labels, select, tolerate, warm⟩ := p
  obtain ⟨v6, l6⟩ := labels
  obtain ⟨v7, l7⟩ := select
  obtain ⟨v8, l8⟩ := tolerate
  obtain ⟨A6, c6, e6, _⟩ := id ho.labels.1
  obtain ⟨A7, c7, e7, _⟩ := id ho.select.1
  obtain ⟨A8, c8, e8, _⟩ := id ho.tolerate.1
  simp only at e6 e7 e8
  subst e6; subst e7; subst e8
  obtain ⟨n0, n1⟩ := hn
  obtain ⟨s0, s1⟩ := hs
  obtain ⟨w0, w1⟩ := hw
  simp only at s0 s1 w0 w1 hcs
  have d0 : -20000 ≤ now - warm := by omega
  have d1 : now - warm ≤ 4611686018427397904 := by omega
  have d2 : -20000 ≤ since + warm := by omega
  have d3 : since + warm ≤ 4611686018427399904 := by omega
  clear ho
  obtain ⟨Z, hZ⟩ : ∃ Z, Z = nextPd ⟨owner, node, phase, since, cpu, mem, ⟨.slice A6 l6.length c6, l6⟩, ⟨.slice A7 l7.length c7, l7⟩, ⟨.slice A8 l8.length c8, l8⟩, warm⟩ now there := ⟨_, rfl⟩
  rw [← hZ] at hcs ⊢
  clear hZ
  generalize l6.length = m6 at *
  generalize l7.length = m7 at *
  generalize l8.length = m8 at *
  simp only [Pd.cells]
  rcases hcs with ⟨h1, hZ⟩ | ⟨h1, h2, h3, hZ⟩ | ⟨h1, h2, h3⟩
  · subst h1
    have HZ := Lib.hid hZ
    clear hZ
    go_enter Try.func23, Try.ntmps23
    go_wp2_with fail
    refine bodyPost_ret (v := .agg #[.string owner, .string node, .int .i64 3, .int .i64 since, .int .i64 cpu, .int .i64 mem, .slice A6 m6 c6, .slice A7 m7 c7, .slice A8 m8 c8, .int .i64 warm]) (by simp [results, Try.results23, go_sem]) rfl ⟨by rw [HZ.out], (by repeat (first | exact Below.refl _ _ | refine Below.setCell ?_ (by simp) _ | refine Below.alloc ?_ (by simp) _))⟩
  · have hp3 : (phase == 3) = false := by simpa using h1
    have hnd := str_ne h2
    subst h3
    have HZ := Lib.hid hZ
    clear hZ h1 h2
    go_enter Try.func23, Try.ntmps23
    go_wp2_with fail
    refine bodyPost_ret (v := .agg #[.string owner, .string node, .int .i64 3, .int .i64 now, .int .i64 cpu, .int .i64 mem, .slice A6 m6 c6, .slice A7 m7 c7, .slice A8 m8 c8, .int .i64 warm]) (by simp [results, Try.results23, go_sem]) rfl ⟨by rw [HZ.out], (by repeat (first | exact Below.refl _ _ | refine Below.setCell ?_ (by simp) _ | refine Below.alloc ?_ (by simp) _))⟩
  · have hp3 : (phase == 3) = false := by simpa using h1
    clear h1
    rcases h2 with h2 | ⟨h2, h4⟩
    · subst h2
      rcases h3 with ⟨h5, h6, hZ⟩ | ⟨h5, h6, hZ⟩ | ⟨h5, hZ⟩
      · subst h5
        have HZ := Lib.hid hZ
        clear hZ
        go_enter Try.func23, Try.ntmps23
        go_wp2_with fail
        refine bodyPost_ret (v := .agg #[.string owner, .string ByteArray.empty, .int .i64 2, .int .i64 (since + warm), .int .i64 cpu, .int .i64 mem, .slice A6 m6 c6, .slice A7 m7 c7, .slice A8 m8 c8, .int .i64 warm]) (by simp [results, Try.results23, go_sem]) rfl ⟨by rw [HZ.out], (by repeat (first | exact Below.refl _ _ | refine Below.setCell ?_ (by simp) _ | refine Below.alloc ?_ (by simp) _))⟩
      · subst h5
        have HZ := Lib.hid hZ
        clear hZ
        go_enter Try.func23, Try.ntmps23
        go_wp2_with fail
        refine bodyPost_ret (v := .agg #[.string owner, .string ByteArray.empty, .int .i64 1, .int .i64 since, .int .i64 cpu, .int .i64 mem, .slice A6 m6 c6, .slice A7 m7 c7, .slice A8 m8 c8, .int .i64 warm]) (by simp [results, Try.results23, go_sem]) rfl ⟨by rw [HZ.out], (by repeat (first | exact Below.refl _ _ | refine Below.setCell ?_ (by simp) _ | refine Below.alloc ?_ (by simp) _))⟩
      · have hp1 : (phase == 1) = false := by simpa using h5
        have HZ := Lib.hid hZ
        clear hZ h5
        go_enter Try.func23, Try.ntmps23
        go_wp2_with fail
        refine bodyPost_ret (v := .agg #[.string owner, .string ByteArray.empty, .int .i64 phase, .int .i64 since, .int .i64 cpu, .int .i64 mem, .slice A6 m6 c6, .slice A7 m7 c7, .slice A8 m8 c8, .int .i64 warm]) (by simp [results, Try.results23, go_sem]) rfl ⟨by rw [HZ.out], (by repeat (first | exact Below.refl _ _ | refine Below.setCell ?_ (by simp) _ | refine Below.alloc ?_ (by simp) _))⟩
    · have hnd := str_ne h2
      subst h4
      clear h2
      rcases h3 with ⟨h5, h6, hZ⟩ | ⟨h5, h6, hZ⟩ | ⟨h5, hZ⟩
      · subst h5
        have HZ := Lib.hid hZ
        clear hZ
        go_enter Try.func23, Try.ntmps23
        go_wp2_with fail
        refine bodyPost_ret (v := .agg #[.string owner, .string node, .int .i64 2, .int .i64 (since + warm), .int .i64 cpu, .int .i64 mem, .slice A6 m6 c6, .slice A7 m7 c7, .slice A8 m8 c8, .int .i64 warm]) (by simp [results, Try.results23, go_sem]) rfl ⟨by rw [HZ.out], (by repeat (first | exact Below.refl _ _ | refine Below.setCell ?_ (by simp) _ | refine Below.alloc ?_ (by simp) _))⟩
      · subst h5
        have HZ := Lib.hid hZ
        clear hZ
        go_enter Try.func23, Try.ntmps23
        go_wp2_with fail
        refine bodyPost_ret (v := .agg #[.string owner, .string node, .int .i64 1, .int .i64 since, .int .i64 cpu, .int .i64 mem, .slice A6 m6 c6, .slice A7 m7 c7, .slice A8 m8 c8, .int .i64 warm]) (by simp [results, Try.results23, go_sem]) rfl ⟨by rw [HZ.out], (by repeat (first | exact Below.refl _ _ | refine Below.setCell ?_ (by simp) _ | refine Below.alloc ?_ (by simp) _))⟩
      · have hp1 : (phase == 1) = false := by simpa using h5
        have HZ := Lib.hid hZ
        clear hZ h5
        go_enter Try.func23, Try.ntmps23
        go_wp2_with fail
        refine bodyPost_ret (v := .agg #[.string owner, .string node, .int .i64 phase, .int .i64 since, .int .i64 cpu, .int .i64 mem, .slice A6 m6 c6, .slice A7 m7 c7, .slice A8 m8 c8, .int .i64 warm]) (by simp [results, Try.results23, go_sem]) rfl ⟨by rw [HZ.out], (by repeat (first | exact Below.refl _ _ | refine Below.setCell ?_ (by simp) _ | refine Below.alloc ?_ (by simp) _))⟩
end Go.Proofs.Ytoobjfpkdlffpaa
end
section
namespace Go.Proofs.Ytoobjfpkdlffpaa
open Go.RowKit Go.Proofs.Mem
set_option linter.unusedVariables false
set_option linter.unusedSimpArgs false
set_option maxHeartbeats 4000000 in
set_option maxRecDepth 100000 in
theorem next14_any (p : Pd) (now : Int) (there : Bool) (w : World) (hn : tickR now) (hs : tickR p.since) (hw : 0 ≤ p.warm ∧ p.warm ≤ 1800) :
    Calls Try.prog 12 #[.agg p.cells.toArray, .int .i64 now, .bool there] w fun e w' => e = .returned (.tuple #[.int .i64 (nextPd p now there).phase, .int .i64 (nextPd p now there).since]) ∧ Below w.heap.size w w' := by
  have hcs := next_cases p now there
  obtain ⟨owner, node, phase, since, cpu, mem, labels, select, tolerate, warm⟩ := p
  obtain ⟨n0, n1⟩ := hn
  obtain ⟨s0, s1⟩ := hs
  obtain ⟨w0, w1⟩ := hw
  simp only at s0 s1 w0 w1 hcs
  have d2 : -20000 ≤ since + warm := by omega
  have d3 : since + warm ≤ 4611686018427399904 := by omega
  obtain ⟨Z, hZ⟩ : ∃ Z, Z = nextPd ⟨owner, node, phase, since, cpu, mem, labels, select, tolerate, warm⟩ now there := ⟨_, rfl⟩
  rw [← hZ] at hcs ⊢
  clear hZ
  simp only [Pd.cells]
  rcases hcs with ⟨h1, hZ⟩ | ⟨h1, h2, h3, hZ⟩ | ⟨h1, h2, h3⟩
  · subst h1
    have HZ := Lib.hid hZ
    clear hZ
    go_enter Try.func12, Try.ntmps12
    go_wp2_with fail
    go_quiet (fail)
    go_wp2_with fail
    go_ret2
    exact ⟨by rw [HZ.out]; rfl, below_drewN (below_al _ _) _⟩
  · have hp3 : (phase == 3) = false := by simpa using h1
    have hnd := str_ne h2
    subst h3
    have HZ := Lib.hid hZ
    clear hZ h1 h2
    go_enter Try.func12, Try.ntmps12
    go_wp2_with fail
    go_ret2
    exact ⟨by rw [HZ.out]; rfl, below_al _ _⟩
  · have hp3 : (phase == 3) = false := by simpa using h1
    clear h1
    have h3' : (phase = 1 ∧ since + warm ≤ now ∧ Z = ⟨owner, node, 2, since + warm, cpu, mem, labels, select, tolerate, warm⟩) ∨ (phase = 1 ∧ ¬ since + warm ≤ now ∧ Z = ⟨owner, node, phase, since, cpu, mem, labels, select, tolerate, warm⟩) ∨ ((phase == 1) = false ∧ Z = ⟨owner, node, phase, since, cpu, mem, labels, select, tolerate, warm⟩) := by
      rcases h3 with ⟨h5, h6, hZ⟩ | ⟨h5, h6, hZ⟩ | ⟨h5, hZ⟩
      · exact .inl ⟨h5, by omega, hZ⟩
      · exact .inr (.inl ⟨h5, by omega, hZ⟩)
      · exact .inr (.inr ⟨by simpa using h5, hZ⟩)
    clear h3
    rcases h2 with h2 | ⟨h2, h4⟩
    · subst h2
      rcases h3' with ⟨h5, h6, hZ⟩ | ⟨h5, h6, hZ⟩ | ⟨h5, hZ⟩
      all_goals
        try subst h5
        have HZ := Lib.hid hZ
        clear hZ
        go_enter Try.func12, Try.ntmps12
        go_wp2_with fail
        go_quiet (fail)
        go_wp2_with fail
        go_ret2
        exact ⟨by rw [HZ.out]; rfl, below_drewN (below_al _ _) _⟩
    · have hnd := str_ne h2
      subst h4
      clear h2
      rcases h3' with ⟨h5, h6, hZ⟩ | ⟨h5, h6, hZ⟩ | ⟨h5, hZ⟩
      all_goals
        try subst h5
        have HZ := Lib.hid hZ
        clear hZ
        go_enter Try.func12, Try.ntmps12
        go_wp2_with fail
        go_quiet (fail)
        go_wp2_with fail
        go_ret2
        exact ⟨by rw [HZ.out]; rfl, below_drewN (below_al _ _) _⟩
set_option maxRecDepth 100000 in
theorem lives14_any (w : World) : Calls Try.prog 6 #[] w fun e w' => e = .returned (.bool true) ∧ Below w.heap.size w w' := by
  have key : ∀ (now : Int) (hn : tickR now) (w1 : World), Calls Try.prog 23 #[.agg #[.string ⟨#[97]⟩, .string ⟨#[110]⟩, .int .i64 1, .int .i64 5, .int .i64 0, .int .i64 0, .slice none 0 0, .slice none 0 0, .slice none 0 0, .int .i64 3], .int .i64 now, .bool true] w1 fun e w' =>
      e = .returned (.agg (nextPd ⟨⟨#[97]⟩, ⟨#[110]⟩, 1, 5, 0, 0, .nil, .nil, .nil, 3⟩ now true).cells.toArray) ∧ Below w1.heap.size w1 w' := fun now hn w1 =>
    next_any ⟨⟨#[97]⟩, ⟨#[110]⟩, 1, 5, 0, 0, .nil, .nil, .nil, 3⟩ now true w1 ⟨by show _ ≤ _; decide, by show _ ≤ _; decide, by show _ = _; decide, by show _ = _; decide, by show _ = _; decide, by show _ = _; decide, Row.nil_ok, Row.nil_ok, Row.nil_ok, by show _ = _; decide⟩ hn (by unfold tickR; simp) (by simp)
  have k8 := key 8 (by unfold tickR; simp)
  have k7 := key 7 (by unfold tickR; simp)
  rw [show nextPd ⟨⟨#[97]⟩, ⟨#[110]⟩, 1, 5, 0, 0, .nil, .nil, .nil, 3⟩ 8 true = ⟨⟨#[97]⟩, ⟨#[110]⟩, 2, 8, 0, 0, .nil, .nil, .nil, 3⟩ by simp [nextPd]] at k8
  rw [show nextPd ⟨⟨#[97]⟩, ⟨#[110]⟩, 1, 5, 0, 0, .nil, .nil, .nil, 3⟩ 7 true = ⟨⟨#[97]⟩, ⟨#[110]⟩, 1, 5, 0, 0, .nil, .nil, .nil, 3⟩ by simp [nextPd]] at k7
  have K8 : Hid (∀ w1, Calls Try.prog 23 #[.agg #[.string ⟨#[97]⟩, .string ⟨#[110]⟩, .int .i64 1, .int .i64 5, .int .i64 0, .int .i64 0, .slice none 0 0, .slice none 0 0, .slice none 0 0, .int .i64 3], .int .i64 8, .bool true] w1 fun e w' =>
      e = .returned (.agg #[.string ⟨#[97]⟩, .string ⟨#[110]⟩, .int .i64 2, .int .i64 8, .int .i64 0, .int .i64 0, .slice none 0 0, .slice none 0 0, .slice none 0 0, .int .i64 3]) ∧ Below w1.heap.size w1 w') := Lib.hid k8
  have K7 : Hid (∀ w1, Calls Try.prog 23 #[.agg #[.string ⟨#[97]⟩, .string ⟨#[110]⟩, .int .i64 1, .int .i64 5, .int .i64 0, .int .i64 0, .slice none 0 0, .slice none 0 0, .slice none 0 0, .int .i64 3], .int .i64 7, .bool true] w1 fun e w' =>
      e = .returned (.agg #[.string ⟨#[97]⟩, .string ⟨#[110]⟩, .int .i64 1, .int .i64 5, .int .i64 0, .int .i64 0, .slice none 0 0, .slice none 0 0, .slice none 0 0, .int .i64 3]) ∧ Below w1.heap.size w1 w') := Lib.hid k7
  clear key k8 k7
  have hk := Bk.new w 44 #[.string ⟨#[97]⟩, .string ⟨#[110]⟩, .int .i64 1, .int .i64 5, .int .i64 0, .int .i64 0, .slice none 0 0, .slice none 0 0, .slice none 0 0, .int .i64 3]
  go_enter Try.func6, Try.ntmps6
  go_wp2_with fail
  refine (K8.out _).mono ?_
  rintro e w1 ⟨rfl, hb1⟩
  have hk1 := hk.below' hb1
  have hlt1 := hk1.lt
  have c0 : w1.cell? ⟨w.heap.size, 0, none⟩ = some (.string ⟨#[97]⟩) := hk1.cell 0
  have c1 : w1.cell? ⟨w.heap.size, 1, none⟩ = some (.string ⟨#[110]⟩) := hk1.cell 1
  have c2 : w1.cell? ⟨w.heap.size, 2, none⟩ = some (.int .i64 1) := hk1.cell 2
  have c3 : w1.cell? ⟨w.heap.size, 3, none⟩ = some (.int .i64 5) := hk1.cell 3
  have c4 : w1.cell? ⟨w.heap.size, 4, none⟩ = some (.int .i64 0) := hk1.cell 4
  have c5 : w1.cell? ⟨w.heap.size, 5, none⟩ = some (.int .i64 0) := hk1.cell 5
  have c6 : w1.cell? ⟨w.heap.size, 6, none⟩ = some (.slice none 0 0) := hk1.cell 6
  have c7 : w1.cell? ⟨w.heap.size, 7, none⟩ = some (.slice none 0 0) := hk1.cell 7
  have c8 : w1.cell? ⟨w.heap.size, 8, none⟩ = some (.slice none 0 0) := hk1.cell 8
  have c9 : w1.cell? ⟨w.heap.size, 9, none⟩ = some (.int .i64 3) := hk1.cell 9
  go_wp2_with fail
  refine (K7.out _).mono ?_
  rintro e w2 ⟨rfl, hb2⟩
  have hfd : ∀ w, (Instr.field 44 (.agg #[.string ⟨#[97]⟩, .string ⟨#[110]⟩, .int .i64 1, .int .i64 5, .int .i64 0, .int .i64 0, .slice none 0 0, .slice none 0 0, .slice none 0 0, .int .i64 3]) 2).run Try.prog w = .ok (.int .i64 1) w := fun _ => by kernel_rfl
  have hq := (Bk.new w1 44 #[.string ⟨#[97]⟩, .string ⟨#[110]⟩, .int .i64 2, .int .i64 8, .int .i64 0, .int .i64 0, .slice none 0 0, .slice none 0 0, .slice none 0 0, .int .i64 3]).below' hb2
  have q2 : w2.cell? ⟨w1.heap.size, 2, none⟩ = some (.int .i64 2) := hq.cell 2
  have q3 : w2.cell? ⟨w1.heap.size, 3, none⟩ = some (.int .i64 8) := hq.cell 3
  go_wp2_with fail
  go_ret
  exact ⟨rfl, below_tr ((below_tr (below_al _ _) hb1).alloc (below_tr (below_al _ _) hb1).size _) hb2⟩
end Go.Proofs.Ytoobjfpkdlffpaa
end
section
namespace Go.Proofs.Ytoobjfpkdlffpaa
open Go.RowKit Go.Proofs.Mem
set_option linter.unusedVariables false
set_option linter.unusedSimpArgs false
def thereB (cl : List Ob) (name : ByteArray) : Bool := (findN 2 name cl).isSome
def nextO (cl : List Ob) (now : Int) (o : Ob) : Pd := nextPd o.p now (thereB cl o.p.node)
def turnsB (cl : List Ob) (now : Int) (o : Ob) : Bool := !((nextO cl now o).phase == o.p.phase && (nextO cl now o).since == o.p.since)
def passOb (cl : List Ob) (now : Int) (o : Ob) : Ob := ⟨o.kind, o.name, o.version, o.w, nextO cl now o, o.n, o.g, o.h⟩
def turnsN (cl : List Ob) (now : Int) (s : List UInt8) : Bool := cl.any fun o => decide (o.kind = 1) && decide (o.name.data.toList = s) && turnsB cl now o
def cntT (cl : List Ob) (now : Int) (k : Nat) : Nat := (((nms cl 1).take k).filter (turnsN cl now)).length
def seenB (cl : List Ob) (k : Nat) (o : Ob) : Bool := decide (o.kind = 1) && decide (o.name.data.toList ∈ (nms cl 1).take k)
def turnAt (cl : List Ob) (now : Int) (o : Ob) : Nat := cntT cl now ((nms cl 1).idxOf o.name.data.toList + 1)
def passC (cl : List Ob) (now : Int) (v0 k : Nat) : List Ob := cl.map fun o => if seenB cl k o && turnsB cl now o then mkV (passOb cl now o) (v0 + turnAt cl now o) else o
section
variable {cl : List Ob} {now : Int} {v0 k : Nat}
theorem passC_keys : keys (passC cl now v0 k) = keys cl := by
  unfold keys passC
  rw [List.map_map]
  refine List.map_congr_left fun o _ => ?_
  simp only [Function.comp]
  split <;> rfl
theorem passC_len : (passC cl now v0 k).length = cl.length := by unfold passC; simp
theorem passC_zero : passC cl now v0 0 = cl := by
  unfold passC
  refine (List.map_congr_left fun o _ => ?_).trans (List.map_id _)
  have : seenB cl 0 o = false := by unfold seenB; simp
  rw [this]
  simp
theorem passC_get {i : Nat} (hi : i < cl.length) : (passC cl now v0 k)[i]'(by rw [passC_len]; exact hi) = if seenB cl k cl[i] && turnsB cl now cl[i] then mkV (passOb cl now cl[i]) (v0 + turnAt cl now cl[i]) else cl[i] := by
  unfold passC
  simp
theorem turnsN_of (hu : (keys cl).Nodup) {o : Ob} (ho : o ∈ cl) (hk : o.kind = 1) : turnsN cl now o.name.data.toList = turnsB cl now o := by
  unfold turnsN
  cases ht : turnsB cl now o with
  | true =>
    rw [List.any_eq_true]
    exact ⟨o, ho, by simp [hk, ht]⟩
  | false =>
    rw [List.any_eq_false]
    intro x hx
    simp only [Bool.and_eq_true, decide_eq_true_eq, not_and, Bool.not_eq_true]
    rintro ⟨h1, h2⟩
    obtain ⟨i, hi, rfl⟩ := List.getElem_of_mem hx
    obtain ⟨j, hj, rfl⟩ := List.getElem_of_mem ho
    have := key_inj hu hi hj (by rw [h1, hk, bytes_inj h2])
    subst this
    exact ht
theorem cntT_next (hu : (keys cl).Nodup) {o : Ob} (ho : o ∈ cl) (hk : o.kind = 1) (hn : (nms cl 1)[k]? = some o.name.data.toList) : cntT cl now (k + 1) = cntT cl now k + (if turnsB cl now o then 1 else 0) := by
  unfold cntT
  obtain ⟨hlt, he⟩ := List.getElem?_eq_some_iff.1 hn
  rw [List.take_succ_eq_append_getElem hlt, List.filter_append, List.length_append, he, List.filter_cons, turnsN_of hu ho hk]
  cases turnsB cl now o <;> simp
theorem idx_of_name (hu : (keys cl).Nodup) {s : List UInt8} (hn : (nms cl 1)[k]? = some s) : (nms cl 1).idxOf s = k := by
  obtain ⟨hlt, he⟩ := List.getElem?_eq_some_iff.1 hn
  rw [← he]
  exact (nms_nodup hu 1).idxOf_getElem k hlt
theorem seen_next (hu : (keys cl).Nodup) {i : Nat} (hi : i < cl.length) (hk : cl[i].kind = 1) (hn : (nms cl 1)[k]? = some cl[i].name.data.toList) {j : Nat} (hj : j < cl.length) :
    seenB cl (k + 1) cl[j] = (seenB cl k cl[j] || decide (i = j)) := by
  obtain ⟨hlt, he⟩ := List.getElem?_eq_some_iff.1 hn
  unfold seenB
  rw [List.take_succ_eq_append_getElem hlt, he]
  by_cases hij : i = j
  · subst hij
    simp [hk]
  · by_cases h1 : cl[j].kind = 1
    · have hne : cl[j].name.data.toList ≠ cl[i].name.data.toList := fun e => hij (key_inj hu hi hj (by rw [hk, h1, bytes_inj e]))
      simp [hij, h1, hne]
    · simp [hij, h1]
theorem not_seen (hu : (keys cl).Nodup) {o : Ob} (hn : (nms cl 1)[k]? = some o.name.data.toList) : seenB cl k o = false := by
  obtain ⟨hlt, he⟩ := List.getElem?_eq_some_iff.1 hn
  unfold seenB
  have : o.name.data.toList ∉ (nms cl 1).take k := by
    intro hm
    obtain ⟨j, hj, e⟩ := List.getElem_of_mem hm
    rw [List.getElem_take] at e
    have hjk : j < k := by
      rw [List.length_take] at hj
      omega
    have := List.pairwise_iff_getElem.1 (nms_nodup hu 1) j k (by omega) hlt hjk
    exact this (e.trans he.symm)
  simp [this]
theorem passC_stay (hu : (keys cl).Nodup) {i : Nat} (hi : i < cl.length) (hk : cl[i].kind = 1) (hn : (nms cl 1)[k]? = some cl[i].name.data.toList) (ht : turnsB cl now cl[i] = false) : passC cl now v0 (k + 1) = passC cl now v0 k := by
  refine List.ext_getElem (by rw [passC_len, passC_len]) fun j h1 h2 => ?_
  rw [passC_len] at h1
  rw [passC_get h1, passC_get h1, seen_next hu hi hk hn h1]
  by_cases hij : i = j
  · subst hij
    simp [ht]
  · simp [hij]
theorem passC_turn (hu : (keys cl).Nodup) {i : Nat} (hi : i < cl.length) (hk : cl[i].kind = 1) (hn : (nms cl 1)[k]? = some cl[i].name.data.toList) (ht : turnsB cl now cl[i] = true) : passC cl now v0 (k + 1) = (passC cl now v0 k).set i (mkV (passOb cl now cl[i]) (v0 + cntT cl now (k + 1))) := by
  refine List.ext_getElem (by rw [List.length_set, passC_len, passC_len]) fun j h1 h2 => ?_
  rw [passC_len] at h1
  rw [passC_get h1, List.getElem_set, seen_next hu hi hk hn h1]
  by_cases hij : i = j
  · subst hij
    rw [if_pos rfl]
    simp only [decide_true, Bool.or_true, Bool.true_and, ht, if_true]
    unfold turnAt
    rw [idx_of_name hu hn]
  · rw [if_neg hij, passC_get h1]
    simp [hij]
theorem passC_here (hu : (keys cl).Nodup) {i : Nat} (hi : i < cl.length) (hn : (nms cl 1)[k]? = some cl[i].name.data.toList) : (passC cl now v0 k)[i]'(by rw [passC_len]; exact hi) = cl[i] := by
  rw [passC_get hi, not_seen hu hn]
  simp
theorem there_pass (name : ByteArray) : thereB (passC cl now v0 k) name = thereB cl name := by
  unfold thereB findN
  have e : ∀ l : List Ob, (l.findIdx? (isOb 2 name)).isSome = (keys l).any fun x => decide (x = (2, name)) := by
    intro l
    rw [List.findIdx?_isSome]
    unfold keys
    rw [List.any_map]
    have hf : isOb 2 name = (fun x : Int × ByteArray => decide (x = (2, name))) ∘ fun x : Ob => (x.kind, x.name) := by
      funext x
      have := isOb_iff (kind := 2) (name := name) (x := x)
      cases hb : isOb 2 name x
      · have h2 : ¬ ((x.kind, x.name) = (2, name)) := fun h => by rw [this.2 h] at hb; cases hb
        simp [Function.comp, h2]
      · simp [Function.comp, this.1 hb]
    rw [hf]
  rw [e, e, passC_keys]
end
end Go.Proofs.Ytoobjfpkdlffpaa
end
section
namespace Go.Proofs.Ytoobjfpkdlffpaa
open Go.RowKit Go.Proofs.Mem
set_option linter.unusedVariables false
set_option linter.unusedSimpArgs false
theorem errO_nf {x y : Ob} (h : nf x = nf y) : errO x = errO y := by
  have e : ∀ o : Ob, errO (nf o) = errO o := fun o => errO_reval o _
  rw [← e x, ← e y, h]
theorem dflt_pod {o : Ob} (h : o.kind = 1) : o.dflt = o := by
  unfold Ob.dflt
  simp [h]
theorem nf_mkV {o o' : Ob} (hk : o.kind = 1) (hk' : o'.kind = 1) (v : Nat) (h : nf o = nf o') : nf (mkV o v) = nf (mkV o' v) := by
  unfold mkV
  rw [dflt_pod hk, dflt_pod hk']
  have e : ∀ q : Ob, nf ⟨q.kind, q.name, (v : Int), q.w, q.p, q.n, q.g, q.h⟩ = ⟨(nf q).kind, (nf q).name, (v : Int), (nf q).w, (nf q).p, (nf q).n, (nf q).g, (nf q).h⟩ := fun q => rfl
  rw [e, e, h]
theorem nf_keys {cl cl' : List Ob} (h : cl'.map nf = cl.map nf) : keys cl' = keys cl := by
  have e : ∀ l : List Ob, keys l = (l.map nf).map fun x => (x.kind, x.name) := fun l => by
    unfold keys
    rw [List.map_map]
    rfl
  rw [e, e, h]
theorem nf_at {cl cl' : List Ob} (h : cl'.map nf = cl.map nf) {x : Ob} (hx : x ∈ cl') : ∃ z ∈ cl, nf x = nf z := by
  have h1 : nf x ∈ cl.map nf := by rw [← h]; exact List.mem_map.2 ⟨x, hx, rfl⟩
  obtain ⟨z, hz, e⟩ := List.mem_map.1 h1
  exact ⟨z, hz, e.symm⟩
theorem nf_key {x z : Ob} (h : nf x = nf z) : x.kind = z.kind ∧ x.name = z.name := ⟨(congrArg Ob.kind h : (nf x).kind = (nf z).kind), (congrArg Ob.name h : (nf x).name = (nf z).name)⟩
theorem SRel.congr {D : DataW Value} {F : Nat → Prop} {w : World} {cl cl' : List Ob} (R : SRel D F w cl) (h : cl'.map nf = cl.map nf) : SRel D F w cl' where
  size := by
    have := congrArg List.length h
    simp only [List.length_map] at this
    rw [this]
    exact R.size
  at1 := fun x hx => by
    obtain ⟨z, hz, e⟩ := nf_at h hx
    obtain ⟨e1, e2⟩ := nf_key e
    obtain ⟨h1, y, h2, h3, h4⟩ := R.at1 z hz
    unfold StandsO
    rw [e1, e2]
    exact ⟨h1, y, h2, h3, h4.trans e.symm⟩
  at0 := by rw [nf_keys h]; exact R.at0
  ok := by rw [nf_keys h]; exact R.ok
  uniq := by rw [nf_keys h]; exact R.uniq
theorem S8.congr {B : Nat} {w : World} {p b : Nat} {most : Int} {evs : List Ev} {cl cl' : List Ob} (M : S8 B w p b most evs cl) (h : cl'.map nf = cl.map nf) : S8 B w p b most evs cl' := by
  obtain ⟨n, D, ev, st, R, hlow, hn, hcl, hgood⟩ := M
  refine ⟨n, D, ev, st, R.congr h, hlow, hn, ?_, fun x hx => ?_⟩
  · have := congrArg List.length h
    simp only [List.length_map] at this
    omega
  · obtain ⟨z, hz, e⟩ := nf_at h hx
    rw [errO_nf e]
    exact hgood z hz
theorem pod_may {o : Ob} (hk : o.kind = 1) (h : errO o = 0) : nmB o.name = true ∧ mayP (emptyB o) o.p = true := by
  unfold errO at h
  rw [if_pos (by omega)] at h
  unfold mayO at h
  rw [if_neg (by omega), if_pos hk] at h
  unfold errN at h
  cases h1 : nmB o.name <;> cases h2 : mayP (emptyB o) o.p <;> simp [h1, h2] at h ⊢
theorem pod_err {o : Ob} (hk : o.kind = 1) (h1 : nmB o.name = true) (h2 : mayP (emptyB o) o.p = true) : errO o = 0 := by
  unfold errO
  rw [if_pos (by omega)]
  unfold mayO
  rw [if_neg (by omega), if_pos hk]
  unfold errN
  rw [h1, h2]
  rfl
theorem pod_warm {em : Bool} {p : Pd} (h : mayP em p = true) : 0 ≤ p.warm ∧ p.warm ≤ 1800 ∧ 0 ≤ p.since ∧ p.since ≤ 4611686018427387904 := by
  unfold mayP mayP1 wantsB at h
  simp only [Bool.and_eq_true, decide_eq_true_eq] at h
  omega
theorem next_may {em : Bool} {p : Pd} {now : Int} {there : Bool} (hn : 0 ≤ now ∧ now ≤ 4611686018427387904) (h : mayP em p = true) : mayP em (nextPd p now there) = true := by
  have hw := pod_warm h
  have h0 := h
  unfold mayP mayP1 at h
  simp only [Bool.and_eq_true, decide_eq_true_eq] at h
  obtain ⟨⟨⟨⟨⟨⟨⟨⟨he, ho⟩, hnd⟩, hp1⟩, hp2⟩, hs1⟩, hs2⟩, hwa⟩, hph⟩ := h
  rcases next_cases p now there with ⟨_, e⟩ | ⟨_, _, _, e⟩ | ⟨_, _, ⟨e1, e2, e⟩ | ⟨_, _, e⟩ | ⟨_, e⟩⟩
  · rw [e]; exact h0
  · rw [e]
    unfold mayP mayP1
    simp only [Bool.and_eq_true, decide_eq_true_eq]
    exact ⟨⟨⟨⟨⟨⟨⟨⟨he, ho⟩, hnd⟩, by omega⟩, by omega⟩, hn.1⟩, hn.2⟩, hwa⟩, rfl⟩
  · rw [e]
    unfold mayP mayP1
    simp only [Bool.and_eq_true, decide_eq_true_eq]
    refine ⟨⟨⟨⟨⟨⟨⟨⟨he, ho⟩, hnd⟩, by omega⟩, by omega⟩, by omega⟩, by omega⟩, hwa⟩, ?_⟩
    rw [e1] at hph
    simpa using hph
  · rw [e]; exact h0
  · rw [e]; exact h0
theorem pass_err {cl : List Ob} {now : Int} {o : Ob} (hn : 0 ≤ now ∧ now ≤ 4611686018427387904) (hk : o.kind = 1) (h : errO o = 0) : errO (passOb cl now o) = 0 := by
  obtain ⟨h1, h2⟩ := pod_may hk h
  refine pod_err (o := passOb cl now o) hk h1 ?_
  have e : emptyB (passOb cl now o) = emptyB o := by
    unfold emptyB emAll
    have : (passOb cl now o).kind = 1 := hk
    simp only [this, hk]
    simp only [show ((1 : Int) == 1) = true from rfl, Bool.or_true]
    rfl
  rw [e]
  exact next_may hn h2
end Go.Proofs.Ytoobjfpkdlffpaa
end
section
namespace Go.Proofs.Ytoobjfpkdlffpaa
open Go.RowKit Go.Proofs.Mem
set_option linter.unusedVariables false
set_option linter.unusedSimpArgs false
theorem KeepU.kept {n₀ p b : Nat} {G : Nat → Prop} {A C : World} {row : Option Nat} (hg : A.grownBy C row) (hr : ∀ r, row = some r → n₀ ≤ r ∧ ∃ o : Obj, A.heap[r]? = some o ∧ o.isCells = false) : KeepU n₀ p b G A C := by
  have hr2 : ∀ r, row = some r → ∃ o : Obj, A.heap[r]? = some o ∧ o.isCells = false := fun r e => (hr r e).2
  refine ⟨hg.os, hg.tape, hg.output, hg.size, fun u hu => cell_kept hu hg hr2, fun ev he => ⟨ev, cell_kept he hg hr2, EvTo.refl _ _, fun i o ho hi _ _ => (hg.block i (Array.getElem?_eq_some_iff.1 ho).1 fun e => ?_).trans ho⟩⟩
  obtain ⟨h1, o', h2, h3⟩ := hr i e.symm
  rcases hi with hi | hi
  · omega
  · rw [ho] at h2
    injection h2 with h2
    rw [h2] at hi
    rw [hi] at h3
    cases h3
theorem own_kept {A C : World} {base s n : Nat} {e : TypeId} {v : Value} {xs : List Value} {row : Option Nat} (h : A.ownsRow base e s v n xs) (hg : A.grownBy C row) (hr : ∀ r, row = some r → ∃ o : Obj, A.heap[r]? = some o ∧ o.isCells = false) : C.ownsRow base e s v n xs := by
  refine own_block h fun g hv => hg.block g (h.lt g hv).2 fun e => ?_
  obtain ⟨o, h1, h2⟩ := hr g e.symm
  obtain ⟨_, h3⟩ := h
  rcases h3 with ⟨h3, _⟩ | ⟨g', cap, cur, hv', _, hh, _⟩
  · rw [h3] at hv
    cases hv
  · rw [hv'] at hv
    have hgg : g' = g := Option.some.inj hv
    subst hgg
    rw [h1] at hh
    injection hh with hh
    rw [hh] at h2
    cases h2
theorem S8.kept {B : Nat} {A C : World} {p b : Nat} {most : Int} {evs : List Ev} {cl : List Ob} {row : Option Nat} (M : S8 B A p b most evs cl) (hg : A.grownBy C row) (hr : ∀ r, row = some r → ∃ o : Obj, A.heap[r]? = some o ∧ o.isCells = false) (hb : some b ≠ row) : S8 B C p b most evs cl := by
  obtain ⟨n, D, ev, st, R, hlow, hn, hcl, hgood⟩ := M
  refine ⟨n, D, ev, ⟨st.1, bk_kept st.2.1 hg hr, st.2.2.1.grown hg hb, own_kept st.2.2.2 hg hr⟩, ?_, hlow, hn, hcl, hgood⟩
  exact {
    size := R.size
    at1 := fun x hx => by
      obtain ⟨h1, y, h2, h3, h4⟩ := R.at1 x hx
      exact ⟨h1, y, h2, ⟨ok_kept h3.1 hg hr, h3.2⟩, h4⟩
    at0 := R.at0
    ok := R.ok
    uniq := R.uniq }
section
variable {F : Fence} {n : Nat} {P : Program} {ops : Array Oper} {rest : List Oper} {o : Oper} {a : Act} {w w' : World} {Q : Exit → Act → World → Prop} {t : TypeId} {cs : Array Value} {g i : Nat} {v : Value}
theorem run_load_at {ev : Operand → Value} {cs : List Value} (hr : w.rangeAt g i cs) (ty : TypeId) (x : Operand) (ho : o.op = .load ty x) (hx : ev x = .pointer (some ⟨g, i, none⟩)) (d : TypeDesc) (hu : P.underlying ty = some d) (hd : d.isRow = true) (hi : (P.info? ty).map (·.size) = some cs.length) :
    (execOp ev o).run P w = .ok (.value (.agg cs.toArray)) w := by
  have hr := run_loadAt_mid (P := P) w g i ty cs d hr hu hd hi
  unfold execOp
  simp only [ho, hx, Sem.run_bind, hr, Result.andThen_ok, Sem.run_pure]
theorem wplI_storeat (hall : ∀ f, F.fn f) (hsem : ∀ ev, o.semAt F.round ev = execOp ev o) (hth : w.there g i cs.size) (hw : Region.wanted o (yielded ops a.tmps) = true) (hd : o.dst = none) (ty : TypeId) (x y : Operand) (ho : o.op = .store ty x y)
    (hx : a.eval x = .pointer (some ⟨g, i, none⟩)) (hy : a.eval y = .agg cs) (hi : sizeIs P ty cs.size = true) (h1 : allOne cs.toList = true)
    (h : wpListIn F n P ops Q rest a (w.setCells g i cs.toList)) : wpListIn F n P ops Q (o :: rest) a w := by
  have hst := run_store_val (P := P) w g i ty (.agg cs) hth hi h1
  simp only [wpListIn, hw, if_true]
  refine ⟨fun f _ => hall f, ?_⟩
  have hrun : (execOp a.eval o).run P w = .ok .skip (w.setCells g i cs.toList) := by
    unfold execOp
    simp only [ho, hx, hy, Sem.run_bind, hst, Result.andThen_ok, Sem.run_pure]
    rfl
  rw [hsem, hrun]
  simp only [Oper.uponIn, hd]
  exact h
end
theorem psame_any (a b : Pd) (w : World) : Calls Try.prog 26 #[.agg a.cells.toArray, .agg b.cells.toArray] w fun e w' => e = .returned (.bool (a.phase == b.phase && a.since == b.since)) ∧ Below w.heap.size w w' := by
  obtain ⟨a0, a1, a2, a3, a4, a5, a6, a7, a8, a9⟩ := a
  obtain ⟨b0, b1, b2, b3, b4, b5, b6, b7, b8, b9⟩ := b
  simp only [Pd.cells]
  go_enter Try.func26, Try.ntmps26
  go_wp2_with fail
  · rename_i h
    go_ret
    exact ⟨by simp [h], below_tr (below_al _ _) (below_al _ _)⟩
  · rename_i h
    go_ret
    exact ⟨by simp [h], below_tr (below_al _ _) (below_al _ _)⟩
def Z10 : Array Value := #[.string ⟨#[]⟩, .string ⟨#[]⟩, .int .i64 0, .int .i64 0, .int .i64 0, .int .i64 0, .slice none 0 0, .slice none 0 0, .slice none 0 0, .int .i64 0]
theorem run_alloc10 {ev : Operand → Value} {o : Oper} (ho : o.op = .alloc 44) (w : World) : (execOp ev o).run Try.prog w = .ok (.value (.pointer (some ⟨w.heap.size, 0, none⟩))) (w.alloc (.cells Z10 44)) := by
  unfold execOp
  simp only [ho]
  unfold Z10
  go_simp
theorem pd_is (x : Pd) (w : World) (h : x.Ok w) : x.cells.length = 10 ∧ x.cells.all (·.oneCell') = true := by
  refine ⟨rfl, ?_⟩
  obtain ⟨A6, c6, e6, _⟩ := id h.labels.1
  obtain ⟨A7, c7, e7, _⟩ := id h.select.1
  obtain ⟨A8, c8, e8, _⟩ := id h.tolerate.1
  unfold Pd.cells
  rw [e6, e7, e8]
  rfl
def passX (x : Ob) (now : Int) (th : Bool) : Ob := ⟨x.kind, x.name, x.version, x.w, nextPd x.p now th, x.n, x.g, x.h⟩
theorem nextPd_nf (o : Ob) (now : Int) (th : Bool) : (nf (passX o now th)) = passX (nf o) now th := by
  obtain ⟨k, n, v, ow, op, on, og, oh⟩ := o
  obtain ⟨p0, p1, p2, p3, p4, p5, ⟨p6, l6⟩, ⟨p7, l7⟩, ⟨p8, l8⟩, p9⟩ := op
  unfold passX nf Ob.reval nextPd
  simp only
  split
  · rfl
  · split
    · rfl
    · split
      · rfl
      · rfl
theorem nf_passX {x z : Ob} (now : Int) (th : Bool) (h : nf x = nf z) : nf (passX x now th) = nf (passX z now th) := by rw [nextPd_nf, nextPd_nf, h]
theorem passOb_eq (cl : List Ob) (now : Int) (z : Ob) : passOb cl now z = passX z now (thereB cl z.p.node) := rfl
theorem nextPd_ok {x : Pd} {now : Int} {th : Bool} {w : World} (hn : wfi .i64 now) (hs : wfi .i64 (x.since + x.warm)) (h : x.Ok w) : (nextPd x now th).Ok w := by
  unfold nextPd
  split
  · exact h
  · split
    · exact ⟨h.owner, h.node, rfl, hn, h.cpu, h.mem, h.labels, h.select, h.tolerate, h.warm⟩
    · split
      · exact ⟨h.owner, h.node, rfl, hs, h.cpu, h.mem, h.labels, h.select, h.tolerate, h.warm⟩
      · exact h
theorem findN_of {l : List Ob} (hu : (keys l).Nodup) {i : Nat} (hi : i < l.length) : findN l[i].kind l[i].name l = some i := by
  unfold findN
  rw [List.findIdx?_eq_some_iff_getElem]
  refine ⟨hi, isOb_iff.2 rfl, fun j hj => ?_⟩
  cases hb : isOb l[i].kind l[i].name l[j]
  · simp
  · have := key_inj hu (by omega) hi (isOb_iff.1 hb)
    omega
theorem isPX {cl : List Ob} {now : Int} {v0 k : Nat} {pre : List Ob} {x : Ob} {A : World} (hu : (keys cl).Nodup) (hk : k = pre.length) (h : KnL (passC cl now v0 k) 1 pre x A) :
    ∃ (i : Nat) (hi : i < cl.length), cl[i].kind = 1 ∧ (nms cl 1)[k]? = some cl[i].name.data.toList ∧ nf x = nf cl[i] ∧ x.Ok A ∧ x.kind = 1 ∧ x.name = cl[i].name ∧ findN x.kind x.name (passC cl now v0 k) = some i ∧ (passC cl now v0 k)[i]'(by rw [passC_len]; exact hi) = cl[i] := by
  obtain ⟨z, hz, hzk, hzn, hnf, hok⟩ := h
  obtain ⟨i, hi, rfl⟩ := List.getElem_of_mem hz
  have hi' : i < cl.length := by rw [passC_len] at hi; exact hi
  have hkey : (passC cl now v0 k)[i].kind = cl[i].kind ∧ (passC cl now v0 k)[i].name = cl[i].name := by
    rw [passC_get hi']
    split <;> exact ⟨rfl, rfl⟩
  rw [nms_keys passC_keys, hkey.2, ← hk] at hzn
  have hh := passC_here (now := now) (v0 := v0) hu hi' hzn
  rw [hh] at hnf hzk
  obtain ⟨e1, e2⟩ := nf_key hnf
  refine ⟨i, hi', hzk, hzn, hnf, hok, by rw [e1]; exact hzk, e2, ?_, hh⟩
  have := findN_of (l := passC cl now v0 k) (by rw [passC_keys]; exact hu) hi
  rw [hkey.1, hkey.2] at this
  rw [e1, e2]
  exact this
end Go.Proofs.Ytoobjfpkdlffpaa
end
section
namespace Go.Proofs.Ytoobjfpkdlffpaa
open Go.RowKit Go.Proofs.Mem
set_option linter.unusedVariables false
set_option linter.unusedSimpArgs false
attribute [local go_sem] Oper.semAt_some
set_option maxRecDepth 100000 in
def isPG (s0 q : Nat) (f : Nat → Value) : Array Value := #[f 0, f 1, .pointer (some ⟨s0, 0, none⟩), .pointer (some ⟨s0 + 1, 0, none⟩), f 4, f 5, f 6, .pointer (some ⟨q, 0, none⟩), f 8, f 9, f 10, f 11, f 12, f 13, f 14, f 15, f 16, f 17, f 18, f 19, f 20, f 21, f 22, f 23, f 24, f 25, f 26, f 27, f 28, f 29, f 30, f 31, f 32, f 33, f 34, f 35, f 36, f 37, f 38, f 39, f 40, f 41, f 42, f 43, f 44, f 45, f 46, f 47, f 48, f 49, f 50, f 51, f 52, f 53, f 54, f 55]
structure IsP (B : Nat) (w : World) (p b : Nat) (most : Int) (cl : List Ob) (now : Int) (v0 : Nat) (pre : List Ob) (W : World) : Prop where
  bs : Bk W w.heap.size 23 #[.pointer (some ⟨p, 0, none⟩)]
  bn : Bk W (w.heap.size + 1) 2 #[.int .i64 now]
  st : ∃ evs, S8 B W p b most evs (passC cl now v0 pre.length) ∧ evs.length = v0 + cntT cl now pre.length
  keep : KeepU w.heap.size p b (fun _ => False) w W
  sz : w.heap.size + 4 ≤ W.heap.size
theorem IsP.own {B : Nat} {w : World} {p b : Nat} {most : Int} {cl : List Ob} {now : Int} {v0 n₀ : Nat} (hn : w.heap.size ≤ n₀) (hb : b < w.heap.size) : OwnFrom n₀ (IsP B w p b most cl now v0) := fun pre W W' row h hg hr =>
  have hr2 : ∀ r, row = some r → ∃ o : Obj, W.heap[r]? = some o ∧ o.isCells = false := fun r e => (hr r e).2
  { bs := bk_kept h.bs hg hr2
    bn := bk_kept h.bn hg hr2
    st := by
      obtain ⟨evs, M, he⟩ := h.st
      exact ⟨evs, M.kept hg hr2 (fun e => by have := (hr b e.symm).1; omega), he⟩
    keep := h.keep.trans (KeepU.kept hg fun r e => ⟨Nat.le_trans hn (hr r e).1, (hr r e).2⟩)
    sz := Nat.le_trans h.sz hg.size }
theorem IsP.below {B : Nat} {w W W' : World} {p b : Nat} {most : Int} {cl : List Ob} {now : Int} {v0 : Nat} {pre : List Ob} (h : IsP B w p b most cl now v0 pre W) (hb : Below W.heap.size W W') : IsP B w p b most cl now v0 pre W' where
  bs := h.bs.below' hb
  bn := h.bn.below' hb
  st := by
    obtain ⟨evs, M, he⟩ := h.st
    exact ⟨evs, M.below hb, he⟩
  keep := h.keep.trans (KeepU.of_below hb)
  sz := Nat.le_trans h.sz hb.size
theorem cntT_le {cl : List Ob} {now : Int} {k : Nat} : cntT cl now k ≤ cl.length := by
  unfold cntT
  refine Nat.le_trans (List.length_filter_le ..) ?_
  rw [List.length_take]
  refine Nat.le_trans (Nat.min_le_right ..) ?_
  unfold nms
  rw [List.length_mergeSort, List.length_map]
  exact List.length_filter_le ..
theorem own_cells {W : World} {base s n g : Nat} {e : TypeId} {v : Value} {xs : List Value} (h : W.ownsRow base e s v n xs) (hg : v.ownBlock = some g) : ∃ cur, W.heap[g]? = some (.cells cur e (0, 0)) := by
  obtain ⟨_, h3⟩ := h
  rcases h3 with ⟨h3, _⟩ | ⟨g', cap, cur, hv', _, hh, _⟩
  · rw [h3] at hg
    cases hg
  · rw [hv'] at hg
    have hgg : g' = g := Option.some.inj hg
    subst hgg
    exact ⟨cur, hh⟩
def IsPAx (cl : List Ob) (now : Int) (v0 s0 z : Nat) (pre : List Ob) (x : Ob) (a : Act) (W : World) : Prop :=
  ∃ q f, a = ⟨isPG s0 q f, []⟩ ∧ z ≤ q ∧ Bk W q 57 x.cells.toArray ∧ KnL (passC cl now v0 pre.length) 1 pre x W
theorem isPAx_intro {cl : List Ob} {now : Int} {v0 s0 z : Nat} {pre : List Ob} {x : Ob} {W : World} (t : Array Value) (q : Nat) (h : t = isPG s0 q (fun i => t.getD i undef)) (hq : z ≤ q) (hb : Bk W q 57 x.cells.toArray) (hk : KnL (passC cl now v0 pre.length) 1 pre x W) : IsPAx cl now v0 s0 z pre x ⟨t, []⟩ W :=
  ⟨q, _, by rw [← h], hq, hb, hk⟩
set_option maxHeartbeats 8000000 in
set_option maxRecDepth 100000 in
theorem pass_any {B : Nat} {w : World} {p b : Nat} {most : Int} {evs : List Ev} {cl : List Ob} (M : S8 B w p b most evs cl) (hlen : evs.length + cl.length ≤ 400) (hB : B ≤ w.heap.size) (now : Int) (hn : 0 ≤ now ∧ now ≤ 4611686018427387904) :
    Calls Try.prog 9 #[.pointer (some ⟨p, 0, none⟩), .int .i64 now] w fun e w' => ∃ A c evs', e = .returned (.tuple #[.slice A (cntT cl now (nms cl 1).length) c, .int .i64 0]) ∧ S8 B w' p b most evs' (passC cl now evs.length (nms cl 1).length) ∧ evs'.length = evs.length + cntT cl now (nms cl 1).length ∧ KeepU w.heap.size p b (fun _ => False) w w' := by
  have HM := Lib.hid (And.intro M (And.intro hlen (And.intro hB hn)))
  have hn1 : ¬ now < 0 := by omega
  have hn2 : ¬ 4611686018427387904 < now := by omega
  clear M hlen hB hn
  refine (callsIn_wide (n := 7)).1 ?_
  refine callsIn_of_wp_marks Try.func9 rfl trivial ?_ rfl
  simp only [Try.ntmps9, List.size_toArray, List.length_cons, List.length_nil, Nat.reduceAdd, Nat.reduceSub, Array.replicate_succ, Array.replicate_zero, List.push_toArray, List.append_toArray, List.nil_append, List.cons_append]
  refine wpIn_seq ?_
  refine wpIn_wide.2 ?_
  refine wp_hide fun QA HQA => ?_
  go_wp2_with fail
  rw [HQA.out]
  simp only [Exit.then]
  refine wpIn_seq ?_
  refine wpIn_wide.2 ?_
  refine wp_hide fun QB HQB => ?_
  go_wp2_with fail
  rw [HQB.out]
  simp only [Exit.then]
  clear HQA HQB
  obtain ⟨W0, hW0⟩ : ∃ W0, W0 = (w.alloc (.cells #[.pointer (some ⟨p, 0, none⟩)] 23)).alloc (.cells #[.int .i64 now] 2) := ⟨_, rfl⟩
  have g1 := (Bk.new w 23 #[.pointer (some ⟨p, 0, none⟩)]).alloc (.cells #[.int .i64 now] 2)
  have g2 := Bk.new (w.alloc (.cells #[.pointer (some ⟨p, 0, none⟩)] 23)) 2 #[.int .i64 now]
  rw [World.size_alloc] at g2
  have gB : Below w.heap.size w W0 := by
    rw [hW0]
    exact below_tr (below_al _ _) (below_al _ _)
  have gz : W0.heap.size = w.heap.size + 2 := by rw [hW0]; simp
  rw [← hW0] at g1 g2 ⊢
  clear hW0
  have e1 := g1.cell 0
  have HG := Lib.hid (And.intro g1 (And.intro g2 (And.intro gB gz)))
  clear g1 g2 gB gz
  refine wpIn_seq ?_
  refine wpIn_wide.2 ?_
  refine wp_hide fun QC HQC => ?_
  go_wp2_with fail
  refine (s8_now (HM.out.1.below HG.out.2.2.1)).mono ?_
  rintro e w1 ⟨rfl, rfl⟩
  go_wp2_with fail
  rw [HQC.out]
  simp only [Exit.then]
  clear HQC
  refine wpIn_seq ?_
  refine wpIn_hide fun QF HQF => ?_
  refine wpIn_seq ?_
  refine wpIn_wide.2 ?_
  refine wp_hide fun QJ HQJ => ?_
  go_wp2_with fail
  refine (list_any p 1 w1).mono ?_
  rintro e W2 ⟨rfl, rfl⟩
  go_wp2_with fail
  rw [HQJ.out]
  simp only [Exit.then]
  clear HQJ
  refine wpIn_block ?_
  obtain ⟨WL, hWL⟩ : ∃ WL, WL = (w1.alloc (.cells #[.pointer (some ⟨p, 0, none⟩)] 23)).alloc (.cells #[.int .i64 1] 3) := ⟨_, rfl⟩
  have l1 := (Bk.new w1 23 #[.pointer (some ⟨p, 0, none⟩)]).alloc (.cells #[.int .i64 1] 3)
  have l2 := Bk.new (w1.alloc (.cells #[.pointer (some ⟨p, 0, none⟩)] 23)) 3 #[.int .i64 1]
  rw [World.size_alloc] at l2
  have lB : Below w1.heap.size w1 WL := by
    rw [hWL]
    exact below_tr (below_al _ _) (below_al _ _)
  have lz : WL.heap.size = w1.heap.size + 2 := by rw [hWL]; simp
  rw [← hWL] at l1 l2 ⊢
  clear hWL e1
  have HL1 := Lib.hid (And.intro l1 (And.intro l2 (And.intro lB lz)))
  clear l1 l2 lB lz
  obtain ⟨n, D, ev0, st, R, hlow, hnn, hcl, hgood⟩ := id HM.out.1
  have bWL := below_tr HG.out.2.2.1 HL1.out.2.2.1
  have stL := st.below bWL
  have RL := R.tch (Tch.of_below bWL) fun _ _ h => h
  have hps : ∀ g, PS p b ev0 g → g < w.heap.size := fun g hg => ps_lt st hg
  have hbw := st.2.2.1.lt
  have hz0 := HG.out.2.2.2
  have hz1 := HL1.out.2.2.2
  have hd0 : ([] : List Ob).length = 0 := rfl
  refine wpIn_rangeFunc_ups (n := 7) rfl (by omega) (gf := 30) (lb := #[.pointer (some ⟨w1.heap.size, 0, none⟩), .pointer (some ⟨w1.heap.size + 1, 0, none⟩)]) rfl trivial (enters_of Try.func30 rfl rfl)
    (list_ups (p := p) (b := b) (n := n) (D := D) (ev0 := ev0) (most := most) (B := B) (G := fun _ => False) (C := fun pre => passC cl now evs.length pre.length) (cl := cl) 6 (by omega) 1 ?hcl WL ?hp ?hmp ?hR ?hbs ?hbk ?hp3 ?hne ?hG ?hC) KeepU.trans ?hKb (Below.refl _ _) (fun _ => rfl)
    (IsP B w p b most cl now evs.length) (fun _ _ _ => False) ?hI (fun _ _ _ _ _ hs _ _ => hs) ?hIQ ?h0 (IsPAx cl now evs.length w.heap.size WL.heap.size) ?hAx ?assign ?body ?done ?stop
  case hcl => have := HM.out.2.1; omega
  case hp => exact stL.cells.2.1
  case hmp => exact stL.2.2.1
  case hR => exact RL
  case hbs => exact HL1.out.1.cell 0
  case hbk => exact HL1.out.2.1.cell 0
  case hp3 => exact stL.cells.2.2.2
  case hne =>
    refine ⟨fun h => ?_, fun h => ?_, fun g hg => ?_⟩
    · have := hps _ h; omega
    · have := hps _ h; omega
    · have := hps _ hg; omega
  case hG => exact ⟨fun _ h => h.elim, fun h => h, fun h => h⟩
  case hC => exact fun pre => passC_keys
  case hKb => exact fun W l o o' hl ho hc hw => KeepU.put W l o o' hl ho hc hw
  case hI => exact IsP.own (by omega) hbw
  case hIQ =>
    intro pre W h
    obtain ⟨evs1, M1, _⟩ := h.st
    exact ⟨evs1, M1⟩
  case h0 =>
    exact {
      bs := HG.out.1.below' HL1.out.2.2.1
      bn := HG.out.2.1.below' HL1.out.2.2.1
      st := ⟨evs, by rw [hd0, passC_zero]; exact HM.out.1.below bWL, by simp [cntT]⟩
      keep := KeepU.of_below bWL
      sz := by omega }
  case hAx =>
    rintro pre x a' s A A' row ⟨q, f, e, hq, hb', z, hz, k1, k2, k3, ho⟩ hg hr
    have hr2 : ∀ r, row = some r → ∃ o : Obj, A.heap[r]? = some o ∧ o.isCells = false := fun r e => (hr r e).2
    exact ⟨q, f, e, hq, bk_kept hb' hg hr2, z, hz, k1, k2, k3, ok_kept ho hg hr2⟩
  case assign =>
    intro l pre x A K hA hKn hK
    have h47 : Is47 x.cells.toArray := cells_is x (by obtain ⟨z, hz, h1, h2, h3, h4⟩ := hKn; exact h4)
    have kz := Bk.new A 57 Z47
    refine wpIn_region_lit ?_
    refine wplI_run (fun _ => trivial) (fun ev => Oper.semAt_some _ _ _ (by intro c h; cases h)) rfl (run_alloc47 rfl _) ?_
    refine wplI_storeg (cs := x.cells.toArray) (fun _ => trivial) (fun ev => Oper.semAt_some _ _ _ (by intro c h; cases h)) kz (by rw [h47.1]; rfl) rfl rfl 57 (.tmp 7) (.tmp 26) rfl (by kernel_rfl) (by kernel_rfl) (info47 h47) h47.2 ?_
    have k2 := setCells_whole kz (show Z47.size = x.cells.toArray.size by rw [h47.1]; rfl)
    have b2 : Below A.heap.size A ((A.alloc (.cells Z47 57)).setCells A.heap.size 0 x.cells.toArray.toList) := below_setCells (g := A.heap.size) x.cells.toArray.toList 0 (below_al A _) (Nat.le_refl _)
    have hzs := hA.sz
    exact hK _ _ ⟨b2.size, fun j o _ hj _ => (b2.block j (Array.getElem?_eq_some_iff.1 hj).1).trans hj⟩ (KeepU.of_below b2) (hA.below b2) (isPAx_intro _ A.heap.size (by kernel_rfl) (by omega) k2 (hKn.below b2))
  case body =>
    rintro l pre x _ A hl hlo hA ⟨q, f, rfl, hq, hbq, hKn⟩
    unfold isPG
    obtain ⟨evs1, M1, he1⟩ := hA.st
    obtain ⟨i, hi, x1, x2, x3, x4, x5, x6, x7, x8⟩ := isPX R.uniq rfl hKn
    have hi2 : i < (passC cl now evs.length pre.length).length := by rw [passC_len]; exact hi
    have hnow := HM.out.2.2.2
    have hlen1 := HM.out.2.1
    have hpm := pod_may x1 (hgood _ (List.getElem_mem hi))
    have hpw := pod_warm hpm.2
    have hnp : (nf x).p = (nf cl[i]).p := by rw [x3]
    have ep1 : x.p.node = cl[i].p.node := (congrArg Pd.node hnp : (nf x).p.node = (nf cl[i]).p.node)
    have ep2 : x.p.since = cl[i].p.since := (congrArg Pd.since hnp : (nf x).p.since = (nf cl[i]).p.since)
    have ep3 : x.p.warm = cl[i].p.warm := (congrArg Pd.warm hnp : (nf x).p.warm = (nf cl[i]).p.warm)
    have ep4 : x.p.phase = cl[i].p.phase := (congrArg Pd.phase hnp : (nf x).p.phase = (nf cl[i]).p.phase)
    have ev4 : x.version = cl[i].version := nf_ver x3
    obtain ⟨th, hth⟩ : ∃ th, th = thereB cl cl[i].p.node := ⟨_, rfl⟩
    have e1 := hA.bs.cell 0
    have e2 := hA.bn.cell 0
    have e3 : A.cell? ⟨q, 11, none⟩ = some (.string x.p.node) := hbq.cell 11
    have hkn : KeyOk (2, x.p.node) := ⟨rfl, Nat.le_trans x4.p.node reach_max⟩
    have CG := Lib.hid (CallsIn.inRound l ((callsIn_wide (n := 4)).2 (s8_get M1 2 x.p.node hkn)))
    have HX := Lib.hid (And.intro hA (And.intro hbq (And.intro hl (And.intro hlo (And.intro hq M1)))))
    have HI := Lib.hid (And.intro x1 (And.intro x2 (And.intro x3 (And.intro x4 (And.intro x5 (And.intro x6 (And.intro x7 x8)))))))
    have HP := Lib.hid (And.intro hpw (And.intro ep1 (And.intro ep2 (And.intro ep3 (And.intro ep4 (And.intro ev4 (And.intro hth (And.intro he1 (And.intro hnow hlen1)))))))))
    clear hA hbq hl hlo hq M1 x1 x2 x3 x4 x5 x6 x7 x8 hpm hpw hnp ep1 ep2 ep3 ep4 ev4 hth he1 hnow hlen1 hkn hKn
    have HST := Lib.hid (And.intro st (And.intro R (And.intro hgood (And.intro hps (And.intro hz0 (And.intro hz1 (And.intro hbw (And.intro hi hi2))))))))
    clear st R hgood hps hz0 hz1 hbw hi2 stL RL hlow hnn hcl bWL hd0
    refine wpIn_block ?_
    refine wpIn_seq ?_
    refine wpIn_hide fun QM HQM => ?_
    gi_wp2_with fail
    refine ⟨trivial, ?_⟩
    refine CG.out.mono ?_
    rintro e A1 ⟨y, rfl, hys, b1, _, _⟩
    have hsome : (findN 2 x.p.node (passC cl now evs.length pre.length)).isSome = th := by
      have h1 := there_pass (cl := cl) (now := now) (v0 := evs.length) (k := pre.length) x.p.node
      unfold thereB at h1
      rw [h1, HP.out.2.1, HP.out.2.2.2.2.2.2.1]
      rfl
    rw [hsome]
    clear hsome CG e1 e2 e3
    have h47 := cells_is y hys.1
    have hzz : Z47.size = y.cells.toArray.size := by rw [h47.1]; rfl
    have kz := Bk.new A1 57 Z47
    gi_wp2_with (first | (refine wplI_run (fun _ => trivial) (fun ev => Oper.semAt_some _ _ _ (by intro c h; cases h)) rfl (run_alloc47 rfl _) ?_) | (refine wplI_storeg (cs := y.cells.toArray) (fun _ => trivial) (fun ev => Oper.semAt_some _ _ _ (by intro c h; cases h)) kz hzz rfl rfl 57 (.tmp 8) (.tmp 33) rfl rfl rfl (info47 h47) h47.2 ?_))
    rw [HQM.out]
    simp only [Exit.then]
    clear HQM
    obtain ⟨A2, hA2⟩ : ∃ A2, A2 = (A1.alloc (.cells Z47 57)).setCells A1.heap.size 0 y.cells := ⟨_, rfl⟩
    have b2 : Below A1.heap.size A1 A2 := by
      rw [hA2]
      exact below_setCells (g := A1.heap.size) y.cells.toArray.toList 0 (below_al A1 _) (Nat.le_refl _)
    rw [← hA2]
    clear hA2 kz hzz h47 hys
    have bA := below_tr b1 b2
    clear b1 b2
    obtain ⟨r8, hr8⟩ : ∃ r, r = A1.heap.size := ⟨_, rfl⟩
    rw [← hr8]
    clear hr8
    have h2 := HX.out.1.below bA
    have hb2 := HX.out.2.1.below' bA
    have e2 := h2.bn.cell 0
    have ok2 := HI.out.2.2.2.1.below bA
    have rp : A2.rangeAt q 10 x.p.cells := range_sub hb2.range 10 10
    have CN := Lib.hid (CallsIn.inRound l ((callsIn_wide (n := 4)).2 (next_any x.p now th A2 ok2.p ⟨by have := HP.out.2.2.2.2.2.2.2.2.1; omega, by have := HP.out.2.2.2.2.2.2.2.2.1; omega⟩ (by rw [HP.out.2.2.1]; exact ⟨by have := HP.out.1; omega, by have := HP.out.1; omega⟩) (by rw [HP.out.2.2.2.1]; exact ⟨HP.out.1.1, HP.out.1.2.1⟩))))
    have H2 := Lib.hid (And.intro h2 (And.intro hb2 (And.intro ok2 (And.intro bA rp))))
    clear h2 hb2 ok2 bA rp
    refine wpIn_seq ?_
    refine wpIn_hide fun QN HQN => ?_
    gi_wp2_with (refine wplI_run (fun _ => trivial) (fun ev => Oper.semAt_some _ _ _ (by intro c h; cases h)) rfl (run_load_at H2.out.2.2.2.2 44 (.tmp 35) rfl rfl _ Try.underlying44 rfl (by kernel_rfl)) ?_)
    refine ⟨trivial, ?_⟩
    refine CN.out.mono ?_
    rintro e A3 ⟨rfl, b3⟩
    clear CN e2
    obtain ⟨nx, hnx⟩ : ∃ nx, nx = nextPd x.p now th := ⟨_, rfl⟩
    rw [← hnx]
    have HNX := Lib.hid hnx
    clear hnx
    have hnow1 : wfi .i64 now := by
      have h1 : IntKind.i64.min = -9223372036854775808 := rfl
      have h2 : IntKind.i64.max = 9223372036854775807 := rfl
      have h3 := HP.out.2.2.2.2.2.2.2.2.1
      unfold wfi Lit.wf
      rw [Bool.and_eq_true, decide_eq_true_eq, decide_eq_true_eq]
      omega
    have hsum : wfi .i64 (x.p.since + x.p.warm) := by
      have h1 : IntKind.i64.min = -9223372036854775808 := rfl
      have h2 : IntKind.i64.max = 9223372036854775807 := rfl
      have h3 := HP.out.1
      rw [HP.out.2.2.1, HP.out.2.2.2.1]
      unfold wfi Lit.wf
      rw [Bool.and_eq_true, decide_eq_true_eq, decide_eq_true_eq]
      omega
    have hnok : nx.Ok A3 := by rw [HNX.out]; exact nextPd_ok hnow1 hsum (H2.out.2.2.1.below b3).p
    have hn10 := pd_is nx A3 hnok
    have kz := Bk.new A3 44 Z10
    have hzz : Z10.size = nx.cells.toArray.size := rfl
    gi_wp2_with (first | (refine wplI_run (fun _ => trivial) (fun ev => Oper.semAt_some _ _ _ (by intro c h; cases h)) rfl (run_alloc10 rfl _) ?_) | (refine wplI_storeg (cs := nx.cells.toArray) (fun _ => trivial) (fun ev => Oper.semAt_some _ _ _ (by intro c h; cases h)) kz hzz rfl rfl 44 (.tmp 10) (.tmp 39) rfl rfl rfl (by kernel_rfl) hn10.2 ?_))
    rw [HQN.out]
    simp only [Exit.then]
    clear HQN
    have k10 := setCells_whole kz hzz
    have b4 : Below A3.heap.size A3 ((A3.alloc (.cells Z10 44)).setCells A3.heap.size 0 nx.cells) := below_setCells (g := A3.heap.size) nx.cells 0 (below_al A3 _) (Nat.le_refl _)
    obtain ⟨A4, hA4⟩ : ∃ A4, A4 = (A3.alloc (.cells Z10 44)).setCells A3.heap.size 0 nx.cells := ⟨_, rfl⟩
    rw [← hA4] at b4
    have k10' : Bk A4 A3.heap.size 44 nx.cells.toArray := by rw [hA4]; exact k10
    rw [← hA4]
    clear k10 hA4 kz hzz
    obtain ⟨r10, hr10⟩ : ∃ r, r = A3.heap.size := ⟨_, rfl⟩
    rw [← hr10] at k10' ⊢
    clear hr10
    have b24 := below_tr b3 b4
    have hnx4 := hnok.below b4
    have H4 := Lib.hid (And.intro (H2.out.1.below b24) (And.intro (H2.out.2.1.below' b24) (And.intro (H2.out.2.2.1.below b24) (And.intro (below_tr H2.out.2.2.2.1 b24) (And.intro (range_sub (H2.out.2.1.below' b24).range 10 10 : A4.rangeAt q 10 x.p.cells) (And.intro k10' (And.intro hnx4 HNX.out)))))))
    clear b3 b4 b24 hnok hn10 k10' hnx4 hnow1 hsum HNX
    have CS := Lib.hid (CallsIn.inRound l ((callsIn_wide (n := 4)).2 (psame_any nx x.p A4)))
    refine wpIn_seq ?_
    refine wpIn_seq ?_
    refine wpIn_hide fun QO HQO => ?_
    gi_wp2_with (first | (refine wplI_run (fun _ => trivial) (fun ev => Oper.semAt_some _ _ _ (by intro c h; cases h)) rfl (run_load_at H4.out.2.2.2.2.1 44 (.tmp 41) rfl rfl _ Try.underlying44 rfl (by kernel_rfl)) ?_) | (refine wplI_run (fun _ => trivial) (fun ev => Oper.semAt_some _ _ _ (by intro c h; cases h)) rfl (run_load_at H4.out.2.2.2.2.2.1.range 44 (.tmp 10) rfl rfl _ Try.underlying44 rfl (by kernel_rfl)) ?_))
    refine ⟨trivial, ?_⟩
    refine CS.out.mono ?_
    rintro e A5 ⟨rfl, b5⟩
    have hbb : (nx.phase == x.p.phase && nx.since == x.p.since) = !turnsB cl now cl[i] := by
      have h1 : (nf (passX x now th)).p = (nf (passX cl[i] now th)).p := by rw [nf_passX now th HI.out.2.2.1]
      have h2 : (nextPd x.p now th).phase = (nextPd cl[i].p now th).phase := (congrArg Pd.phase h1 : (nf (passX x now th)).p.phase = (nf (passX cl[i] now th)).p.phase)
      have h3 : (nextPd x.p now th).since = (nextPd cl[i].p now th).since := (congrArg Pd.since h1 : (nf (passX x now th)).p.since = (nf (passX cl[i] now th)).p.since)
      rw [H4.out.2.2.2.2.2.2.2, h2, h3, HP.out.2.2.1, HP.out.2.2.2.2.1]
      unfold turnsB nextO
      rw [← HP.out.2.2.2.2.2.2.1, Bool.not_not]
    rw [hbb]
    clear CS hbb
    have b5' := below_tr H4.out.2.2.2.1 b5
    have hcn := cntT_next (now := now) (k := pre.length) HST.out.2.1.uniq (List.getElem_mem hi) HI.out.1 HI.out.2.1
    have hpl : (pre ++ [x]).length = pre.length + 1 := by simp
    have keeps : ∀ Z : World, Below A.heap.size A Z → KeepsFrom WL.heap.size A Z := fun Z b => ⟨b.size, fun j o _ hj _ => (b.block j (Array.getElem?_eq_some_iff.1 hj).1).trans hj⟩
    have HC5 := Lib.hid (And.intro hcn (And.intro hpl keeps))
    have H5 := Lib.hid (And.intro b5 b5')
    clear hcn hpl keeps b5 b5'
    cases ht : turnsB cl now cl[i] with
    | false =>
      have HT := Lib.hid ht
      clear ht
      gi_wp2_with fail
      rw [HQO.out]
      simp only [Exit.then, Exit.inBlock]
      gi_wp2_with fail
      have hA5 := HX.out.1.below H5.out.2
      obtain ⟨evs9, M9, he9⟩ := hA5.st
      refine ⟨HC5.out.2.2 A5 H5.out.2, KeepU.of_below H5.out.2, ⟨hA5.bs, hA5.bn, ⟨evs9, ?_, ?_⟩, hA5.keep, hA5.sz⟩⟩
      · rw [HC5.out.2.1, passC_stay HST.out.2.1.uniq hi HI.out.1 HI.out.2.1 HT.out]
        exact M9
      · rw [he9, HC5.out.2.1, HC5.out.1, HT.out]
        simp
    | true =>
      have HT := Lib.hid ht
      clear ht
      gi_wp2_with fail
      rw [HQO.out]
      simp only [Exit.then]
      refine wpIn_hide fun QS HQS => ?_
      gi_wp2_with fail
      rw [HQS.out]
      simp only [Exit.then]
      have hb5 := H4.out.2.1.below' H5.out.1
      have ok5 := H4.out.2.2.1.below H5.out.1
      have h47x := cells_is x ok5
      have CC := Lib.hid (CallsIn.inRound l ((callsIn_wide (n := 4)).2 (vclone_any x A5 ok5)))
      have H6 := Lib.hid (And.intro hb5.range (And.intro (H4.out.1.below H5.out.1) (And.intro (H4.out.2.2.2.2.2.1.below' H5.out.1) (And.intro (H4.out.2.2.2.2.2.2.1.below H5.out.1) ok5))))
      clear hb5
      refine wpIn_seq ?_
      refine wpIn_hide fun QR HQR => ?_
      gi_wp2_with (refine wplI_run (fun _ => trivial) (fun ev => Oper.semAt_some _ _ _ (by intro c h; cases h)) rfl (run_load_at H6.out.1 57 (.tmp 7) rfl rfl _ Try.underlying57 rfl (by kernel_rfl)) ?_)
      refine ⟨trivial, ?_⟩
      refine CC.out.mono ?_
      rintro e A6 ⟨V, rfl, hV, b6⟩
      obtain ⟨xr, hxr⟩ : ∃ xr, xr = x.reval V := ⟨_, rfl⟩
      have okr : xr.Ok A6 := by rw [hxr]; exact Ob.reval_ok ok5 hV
      rw [← hxr]
      have HXR := Lib.hid hxr
      clear hxr hV CC
      have h47 := cells_is xr okr
      have hzz : Z47.size = xr.cells.toArray.size := by rw [h47.1]; rfl
      have kz := Bk.new A6 57 Z47
      gi_wp2_with (first | (refine wplI_run (fun _ => trivial) (fun ev => Oper.semAt_some _ _ _ (by intro c h; cases h)) rfl (run_alloc47 rfl _) ?_) | (refine wplI_storeg (cs := xr.cells.toArray) (fun _ => trivial) (fun ev => Oper.semAt_some _ _ _ (by intro c h; cases h)) kz hzz rfl rfl 57 (.tmp 11) (.tmp 45) rfl rfl rfl (info47 h47) h47.2 ?_))
      rw [HQR.out]
      simp only [Exit.then]
      clear HQR
      have k11 := setCells_whole kz hzz
      have b7 : Below A6.heap.size A6 ((A6.alloc (.cells Z47 57)).setCells A6.heap.size 0 xr.cells) := below_setCells (g := A6.heap.size) xr.cells 0 (below_al A6 _) (Nat.le_refl _)
      obtain ⟨A7, hA7⟩ : ∃ A7, A7 = (A6.alloc (.cells Z47 57)).setCells A6.heap.size 0 xr.cells := ⟨_, rfl⟩
      have k11' : Bk A7 A6.heap.size 57 xr.cells.toArray := by rw [hA7]; exact k11
      rw [← hA7] at b7 ⊢
      clear k11 hA7 kz hzz
      obtain ⟨r11, hr11⟩ : ∃ r, r = A6.heap.size := ⟨_, rfl⟩
      have H7 := Lib.hid (And.intro (H6.out.2.2.1.below' (below_tr b6 b7)).range (And.intro k11' (And.intro okr (And.intro b6 b7))))
      rw [← hr11] at H7 ⊢
      have hth : A7.there r11 10 nx.cells.toArray.size := by
        intro j hj
        have hj' : j < 10 := hj
        have h1 := H7.out.2.1.cell (10 + j)
        rw [Array.getElem?_eq_getElem (show 10 + j < xr.cells.toArray.size by rw [h47.1]; omega)] at h1
        exact ⟨by rw [h1]; rfl, H7.out.2.1.frozen _⟩
      have hn10 := pd_is nx A5 H6.out.2.2.2.1
      have hone : allOne nx.cells.toArray.toList = true := by
        have := hn10.2
        obtain ⟨A6', c6', e6', _⟩ := id H6.out.2.2.2.1.labels.1
        obtain ⟨A7', c7', e7', _⟩ := id H6.out.2.2.2.1.select.1
        obtain ⟨A8', c8', e8', _⟩ := id H6.out.2.2.2.1.tolerate.1
        unfold Pd.cells
        rw [e6', e7', e8']
        rfl
      have HR11 := Lib.hid hr11
      clear hr11 b6 b7 k11' okr h47
      refine wpIn_seq ?_
      refine wpIn_hide fun QT HQT => ?_
      gi_wp2_with (first | (refine wplI_run (fun _ => trivial) (fun ev => Oper.semAt_some _ _ _ (by intro c h; cases h)) rfl (run_load_at H7.out.1 44 (.tmp 10) rfl rfl _ Try.underlying44 rfl (by kernel_rfl)) ?_) | (refine wplI_storeat (cs := nx.cells.toArray) (fun _ => trivial) (fun ev => Oper.semAt_some _ _ _ (by intro c h; cases h)) hth rfl rfl 44 (.tmp 47) (.tmp 46) rfl rfl rfl (by kernel_rfl) hone ?_))
      rw [HQT.out]
      simp only [Exit.then]
      clear HQT hth hone hn10 HQO HQS
      obtain ⟨x9, hx9⟩ : ∃ x9 : Ob, x9 = ⟨xr.kind, xr.name, xr.version, xr.w, nx, xr.n, xr.g, xr.h⟩ := ⟨_, rfl⟩
      obtain ⟨A8, hA8⟩ : ∃ A8, A8 = A7.setCells r11 10 nx.cells := ⟨_, rfl⟩
      have k8 : Bk A8 r11 57 x9.cells.toArray := by
        have h1 := Bk.setL nx.cells 10 H7.out.2.1 xr.cells rfl
        rw [hA8, hx9]
        exact h1
      have hr11 := HR11.out
      have b5a := H5.out.2
      have b56 := H7.out.2.2.2.1
      have b67 := H7.out.2.2.2.2
      rw [hr11] at b67
      have b68 : Below A6.heap.size A6 A8 := by rw [hA8]; exact below_setCells (g := r11) nx.cells 10 b67 (by omega)
      have b58 := below_tr b56 b68
      have bA8 := below_tr b5a b58
      have okr := H7.out.2.2.1.below b68
      have nok := H6.out.2.2.2.1.below b58
      have ok9 : x9.Ok A8 := by
        rw [hx9]
        exact ⟨okr.kind, okr.name, okr.version, okr.w, nok, okr.n, okr.g, okr.h⟩
      have MM8 := HX.out.2.2.2.2.2.below bA8
      have hcl9 := cntT_le (cl := cl) (now := now) (k := pre.length)
      have he9 := HP.out.2.2.2.2.2.2.2.1
      have hl9 := HP.out.2.2.2.2.2.2.2.2.2
      have hB8 : B ≤ A8.heap.size := by
        have h1 := HX.out.1.sz
        have h2 := bA8.size
        have h3 := HM.out.2.2.1
        omega
      have CU := Lib.hid (CallsIn.inRound l ((callsIn_wide (n := 4)).2 (s8_update MM8 (by omega) hB8 x9 ok9)))
      have e8 := (HX.out.1.bs.below' bA8).cell 0
      have H8 := Lib.hid (And.intro k8.range (And.intro bA8 (And.intro MM8 (And.intro hx9 (And.intro ok9 (And.intro he9 hl9))))))
      have H68 := Lib.hid (And.intro b68 b58)
      rw [← hA8]
      clear hx9 hA8 k8 hr11 b5a b56 b67 b68 b58 bA8 okr nok ok9 MM8 hcl9 he9 hl9 hB8
      gi_wp2_with (refine wplI_run (fun _ => trivial) (fun ev => Oper.semAt_some _ _ _ (by intro c h; cases h)) rfl (run_load_at H8.out.1 57 (.tmp 11) rfl rfl _ Try.underlying57 rfl (by kernel_rfl)) ?_)
      refine ⟨trivial, ?_⟩
      refine CU.out.mono ?_
      rintro e A9 hU
      have hkx : x9.kind = 1 := by rw [H8.out.2.2.2.1, HXR.out]; exact HI.out.2.2.2.2.1
      have hnf9 : nf x9 = nf (passOb cl now cl[i]) := by
        rw [passOb_eq, ← HP.out.2.2.2.2.2.2.1, ← nf_passX now th HI.out.2.2.1, H8.out.2.2.2.1, HXR.out, H4.out.2.2.2.2.2.2.2]
        have e : ∀ (q : Ob) (pp : Pd), nf ⟨(q.reval V).kind, (q.reval V).name, (q.reval V).version, (q.reval V).w, pp, (q.reval V).n, (q.reval V).g, (q.reval V).h⟩ = nf ⟨q.kind, q.name, q.version, q.w, pp, q.n, q.g, q.h⟩ := fun q pp => rfl
        rw [e]
        rfl
      have herr : errO x9.dflt = 0 := by
        rw [dflt_pod hkx, errO_nf hnf9]
        exact pass_err HP.out.2.2.2.2.2.2.2.2.1 HI.out.1 (HST.out.2.2.1 _ (List.getElem_mem hi))
      have hfi : findN x9.kind x9.name (passC cl now evs.length pre.length) = some i := by
        rw [H8.out.2.2.2.1, HXR.out]
        exact HI.out.2.2.2.2.2.2.1
      have hver : x9.version = cl[i].version := by
        rw [H8.out.2.2.2.1, HXR.out]
        exact HP.out.2.2.2.2.2.1
      rcases hU with ⟨h1, _⟩ | ⟨_, h1, _⟩ | ⟨_, ⟨j, hj, h1, h2⟩, _⟩ | ⟨_, j, hj, h1, h2, rfl, hS, hBel, hKeep⟩
      · exact absurd herr h1
      · rw [hfi] at h1; cases h1
      · rw [hfi] at h1
        injection h1 with h1
        subst h1
        exact absurd (by rw [HI.out.2.2.2.2.2.2.2]; exact hver.symm) h2
      rw [hfi] at h1
      injection h1 with h1
      subst h1
      gi_wp2_with fail
      obtain ⟨n8, D8, ev8, st8, _⟩ := H8.out.2.2.1
      have c8 := st8.cells.2.2.2
      have hbA8 := H8.out.2.1
      obtain ⟨_, _, _, hps, hz0, hz1, hbw, _, _⟩ := HST.out
      have hpw : p < w.heap.size := hps p (.inl rfl)
      have hsz8 := hbA8.size
      have hszA := HX.out.1.sz
      have hevt : ∀ j t cs, Bk A8 j t cs → t ≠ 91 → j < w.heap.size + 2 → w.heap.size ≤ j → ¬ PS p b ev8 j := by
        rintro j t cs hk hne h1 h2 (h | h | h)
        · omega
        · omega
        · obtain ⟨cur, h3⟩ := own_cells st8.2.2.2 h
          have h4 : A8.heap[j]? = some (.cells cs t (0, 0)) := hk
          rw [h3] at h4
          injection h4 with h4
          injection h4 with h4 h5
          exact hne h5.symm
      have hbs8 := HX.out.1.bs.below' hbA8
      have hbn8 := HX.out.1.bn.below' hbA8
      have hK0 := hKeep A8.heap.size (fun _ => False)
      refine ⟨⟨Nat.le_trans hsz8 hBel.size, fun j o hj ho hc => ?_⟩, (KeepU.of_below hbA8).trans (hKeep _ _), ⟨?_, ?_, ?_, (HX.out.1.keep.trans (KeepU.of_below hbA8)).trans (hKeep _ _), ?_⟩⟩
      · have ho8 := (hbA8.block j (Array.getElem?_eq_some_iff.1 ho).1).trans ho
        refine hK0.frame c8 ho8 (.inl (Array.getElem?_eq_some_iff.1 ho8).1) ?_ (fun h => h)
        rintro (h | h | h)
        · omega
        · omega
        · obtain ⟨cur, h3⟩ := own_cells st8.2.2.2 h
          rw [h3] at ho8
          injection ho8 with ho8
          rw [← ho8] at hc
          cases hc
      · exact hK0.frame c8 hbs8 (.inl hbs8.lt) (hevt _ _ _ hbs8 (by decide) (by omega) (by omega)) (fun h => h)
      · exact hK0.frame c8 hbn8 (.inl hbn8.lt) (hevt _ _ _ hbn8 (by decide) (by omega) (by omega)) (fun h => h)
      · have he9 := H8.out.2.2.2.2.2.1
        have hc9 := HC5.out.1
        rw [HT.out] at hc9
        simp only [if_true] at hc9
        refine ⟨_, hS.congr ?_, ?_⟩
        · rw [HC5.out.2.1, passC_turn HST.out.2.1.uniq hi HI.out.1 HI.out.2.1 HT.out, List.map_set, List.map_set, show evs1.length + 1 = evs.length + cntT cl now (pre.length + 1) by omega, nf_mkV (o := x9) (o' := passOb cl now cl[i]) hkx HI.out.1 _ hnf9]
        · rw [List.length_append, HC5.out.2.1, hc9, he9]
          rfl
      · have := hBel.size
        omega
  case done =>
    intro D9 xs A hD hxs hA hmD
    show QF .normal _ A
    rw [HQF.out]
    simp only [Exit.then]
    have hlx : xs.length = (nms cl 1).length := hxs
    obtain ⟨evs9, M9, he9⟩ := hA.st
    rw [hlx] at M9 he9
    have e1 := hA.bs.cell 0
    obtain ⟨n9, D9', ev9, st9, _⟩ := id M9
    have hc1 := cntT_le (cl := cl) (now := now) (k := (nms cl 1).length)
    have hlen1 := HM.out.2.1
    have CS := Lib.hid (since_ok A p b n9 D9' most _ ev9 evs9 st9 (by omega) (by omega) evs.length evs.length (by omega) (by omega))
    have HA9 := Lib.hid (And.intro hA (And.intro M9 (And.intro he9 hmD)))
    have HST := Lib.hid (And.intro st (And.intro R (And.intro hgood (And.intro hps (And.intro hz0 (And.intro hz1 (And.intro hbw hD)))))))
    clear hA M9 he9 hmD st9 st R hgood hps hz0 hz1 hbw hD stL RL hlow hnn hcl bWL hd0 hlx hxs
    refine wpIn_seq ?_
    refine wpIn_wide.2 ?_
    refine wp_hide fun QZ HQZ => ?_
    go_wp2_with fail
    refine CS.out.mono ?_
    rintro e A2 ⟨v9, rfl, hown9, b9⟩
    have hcnt : evs9.length - evs.length = cntT cl now (nms cl 1).length := by have := HA9.out.2.2.1; omega
    rw [hcnt] at hown9
    obtain ⟨Av, cv, ev, _⟩ := id (Sl.of_own hown9)
    subst ev
    have H9 := Lib.hid b9
    clear hown9 b9 CS hcnt
    go_wp2_with fail
    rw [HQZ.out]
    simp only [Exit.then]
    clear HQZ
    have m9 : A2.heap[D9]? = some (.deferred (some [])) := (H9.out.block D9 (Array.getElem?_eq_some_iff.1 HA9.out.2.2.2).1).trans HA9.out.2.2.2
    have HM9 := Lib.hid m9
    clear m9
    gi_wp2_with fail
    refine marks_leave [D9] A2 (by simp) (fun D hD => by rw [List.mem_singleton.1 hD]; exact HM9.out) fun w' a1 a2 a3 a4 a5 => ?_
    have hg : A2.grownBy w' (some D9) := ⟨a1, a2, a3, by rw [a4]; exact Nat.le_refl _, fun i hi hn => a5 i (fun h => hn (by rw [List.mem_singleton.1 h]))⟩
    have hr2 : ∀ r, some D9 = some r → ∃ o : Obj, A2.heap[r]? = some o ∧ o.isCells = false := fun r e => by
      injection e with e
      subst e
      exact ⟨_, HM9.out, rfl⟩
    have hDge := HST.out.2.2.2.2.2.2.2
    have hz1 := HST.out.2.2.2.2.2.1
    have hz0 := HST.out.2.2.2.2.1
    have hbw := HST.out.2.2.2.2.2.2.1
    refine ⟨.tuple #[.slice Av (cntT cl now (nms cl 1).length) cv, .int .i64 0], ?_, Av, cv, evs9, rfl, (HA9.out.2.1.below H9.out).kept hg hr2 (fun e => by injection e with e; omega), HA9.out.2.2.1, (HA9.out.1.keep.trans (KeepU.of_below H9.out)).trans (KeepU.kept hg fun r e => ⟨by injection e with e; omega, hr2 r e⟩)⟩
    simp [results, Try.results9, go_sem]
  case stop =>
    rintro D c pre A _ h _
    exact h.elim
end Go.Proofs.Ytoobjfpkdlffpaa
end
section
namespace Go.Proofs.Ytoobjfpkdlffpaa
open Go.RowKit Go.Proofs.Mem
set_option linter.unusedVariables false
set_option linter.unusedSimpArgs false
theorem pass_bad (w : World) (p : Nat) (now : Int) (hn : now < 0 ∨ 4611686018427387904 < now) : Calls Try.prog 9 #[.pointer (some ⟨p, 0, none⟩), .int .i64 now] w fun e w' => e = .returned (.tuple #[.slice none 0 0, .int .i64 1]) ∧ Below w.heap.size w w' := by
  refine (callsIn_wide (n := 7)).1 ?_
  refine callsIn_of_wp_marks Try.func9 rfl trivial ?_ rfl
  simp only [Try.ntmps9, List.size_toArray, List.length_cons, List.length_nil, Nat.reduceAdd, Nat.reduceSub, Array.replicate_succ, Array.replicate_zero, List.push_toArray, List.append_toArray, List.nil_append, List.cons_append]
  refine wpIn_seq ?_
  refine wpIn_wide.2 ?_
  refine wp_hide fun QA HQA => ?_
  go_wp2_with fail
  rw [HQA.out]
  simp only [Exit.then]
  clear HQA
  refine wpIn_seq ?_
  refine wpIn_wide.2 ?_
  refine wp_hide fun QB HQB => ?_
  rcases hn with hn | hn
  · go_wp2_with fail
    rw [HQB.out]
    simp only [Exit.then]
    refine marks_leave [] _ List.nodup_nil (fun D h => by cases h) fun w' a1 a2 a3 a4 a5 => ?_
    have b2 : Below w.heap.size w ((w.alloc (.cells #[.pointer (some ⟨p, 0, none⟩)] 23)).alloc (.cells #[.int .i64 now] 2)) := below_tr (below_al _ _) (below_al _ _)
    refine ⟨.tuple #[.slice none 0 0, .int .i64 1], ?_, rfl, ⟨a1.trans b2.os, a2.trans b2.tape, a3.trans b2.output, by rw [a4]; exact b2.size, fun i hi => (a5 i (by simp)).trans (b2.block i hi)⟩⟩
    simp [results, Try.results9, go_sem]
  · have hn1 : ¬ now < 0 := by omega
    go_wp2_with fail
    rw [HQB.out]
    simp only [Exit.then]
    refine marks_leave [] _ List.nodup_nil (fun D h => by cases h) fun w' a1 a2 a3 a4 a5 => ?_
    have b2 : Below w.heap.size w ((w.alloc (.cells #[.pointer (some ⟨p, 0, none⟩)] 23)).alloc (.cells #[.int .i64 now] 2)) := below_tr (below_al _ _) (below_al _ _)
    refine ⟨.tuple #[.slice none 0 0, .int .i64 1], ?_, rfl, ⟨a1.trans b2.os, a2.trans b2.tape, a3.trans b2.output, by rw [a4]; exact b2.size, fun i hi => (a5 i (by simp)).trans (b2.block i hi)⟩⟩
    simp [results, Try.results9, go_sem]
theorem pass_nil (w : World) (now : Int) : Calls Try.prog 9 #[.pointer none, .int .i64 now] w fun e w' => e = .returned (.tuple #[.slice none 0 0, .int .i64 1]) ∧ Below w.heap.size w w' := by
  refine (callsIn_wide (n := 7)).1 ?_
  refine callsIn_of_wp_marks Try.func9 rfl trivial ?_ rfl
  simp only [Try.ntmps9, List.size_toArray, List.length_cons, List.length_nil, Nat.reduceAdd, Nat.reduceSub, Array.replicate_succ, Array.replicate_zero, List.push_toArray, List.append_toArray, List.nil_append, List.cons_append]
  refine wpIn_seq ?_
  refine wpIn_wide.2 ?_
  refine wp_hide fun QA HQA => ?_
  go_wp2_with fail
  rw [HQA.out]
  simp only [Exit.then]
  clear HQA
  refine wpIn_seq ?_
  refine wpIn_wide.2 ?_
  refine wp_hide fun QB HQB => ?_
  go_wp2_with fail
  rw [HQB.out]
  simp only [Exit.then]
  refine marks_leave [] _ List.nodup_nil (fun D h => by cases h) fun w' a1 a2 a3 a4 a5 => ?_
  have b2 : Below w.heap.size w ((w.alloc (.cells #[.pointer none] 23)).alloc (.cells #[.int .i64 now] 2)) := below_tr (below_al _ _) (below_al _ _)
  refine ⟨.tuple #[.slice none 0 0, .int .i64 1], ?_, rfl, ⟨a1.trans b2.os, a2.trans b2.tape, a3.trans b2.output, by rw [a4]; exact b2.size, fun i hi => (a5 i (by simp)).trans (b2.block i hi)⟩⟩
  simp [results, Try.results9, go_sem]
end Go.Proofs.Ytoobjfpkdlffpaa
end
section
namespace Go.Proofs.Ytoobjfpkdlffpaa
open Go.RowKit Go.Proofs.Mem
set_option linter.unusedVariables false
set_option linter.unusedSimpArgs false
theorem next_same (p : Pd) (now : Int) (there : Bool) : nextPd p now there = { p with phase := (nextPd p now there).phase, since := (nextPd p now there).since } := by
  rcases next_cases p now there with ⟨_, h⟩ | ⟨_, _, _, h⟩ | ⟨_, _, ⟨_, _, h⟩ | ⟨_, _, h⟩ | ⟨_, h⟩⟩ <;> rw [h]
theorem next_next (p : Pd) (now : Int) (there : Bool) : nextPd (nextPd p now there) now there = nextPd p now there := by
  rcases next_cases p now there with ⟨h1, h⟩ | ⟨h1, h2, h3, h⟩ | ⟨h1, h2, ⟨h3, h4, h⟩ | ⟨h3, h4, h⟩ | ⟨h3, h⟩⟩
  · rw [h, h]
  · rw [h]; simp [nextPd]
  · rw [h]
    rcases h2 with h2 | ⟨h2, h5⟩ <;> simp [nextPd, *]
  · rw [h, h]
  · rw [h, h]
section
variable {cl : List Ob} {now : Int} {v0 : Nat}
theorem seen_all {o : Ob} (ho : o ∈ cl) (hk : o.kind = 1) : seenB cl (nms cl 1).length o = true := by
  unfold seenB
  rw [List.take_length]
  have := nms_mem.2 ⟨o, ho, hk, rfl⟩
  simp [hk, this]
theorem mkV_p {o : Ob} (hk : o.kind = 1) (v : Nat) : (mkV o v).p = o.p := by
  unfold mkV
  rw [dflt_pod hk]
theorem not_pod_seen {k : Nat} {o : Ob} (hk : o.kind ≠ 1) : seenB cl k o = false := by
  unfold seenB
  simp [hk]
theorem passC_all {i : Nat} (hi : i < cl.length) : (cl[i].kind ≠ 1 → (passC cl now v0 (nms cl 1).length)[i]'(by rw [passC_len]; exact hi) = cl[i]) ∧
    (cl[i].kind = 1 → (passC cl now v0 (nms cl 1).length)[i]'(by rw [passC_len]; exact hi) = if turnsB cl now cl[i] then mkV (passOb cl now cl[i]) (v0 + turnAt cl now cl[i]) else cl[i]) := by
  refine ⟨fun h => ?_, fun h => ?_⟩
  · rw [passC_get hi, not_pod_seen h]
    simp
  · rw [passC_get hi, seen_all (List.getElem_mem hi) h]
    simp
theorem turns_again {i : Nat} (hi : i < cl.length) (hk : cl[i].kind = 1) : turnsB (passC cl now v0 (nms cl 1).length) now ((passC cl now v0 (nms cl 1).length)[i]'(by rw [passC_len]; exact hi)) = false := by
  rw [(passC_all hi).2 hk]
  have ht : ∀ name, thereB (passC cl now v0 (nms cl 1).length) name = thereB cl name := fun name => there_pass name
  cases h : turnsB cl now cl[i] with
  | false =>
    rw [if_neg (by simp)]
    unfold turnsB nextO at h ⊢
    rw [ht]
    exact h
  | true =>
    rw [if_pos rfl]
    have e : (mkV (passOb cl now cl[i]) (v0 + turnAt cl now cl[i])).p = nextO cl now cl[i] := mkV_p (o := passOb cl now cl[i]) hk _
    unfold turnsB nextO
    rw [ht, e]
    have en : (nextO cl now cl[i]).node = cl[i].p.node := by
      unfold nextO
      rw [next_same]
    rw [en]
    unfold nextO
    rw [next_next]
    simp
theorem cntT_again {k : Nat} : cntT (passC cl now v0 (nms cl 1).length) now k = 0 := by
  unfold cntT
  rw [List.length_eq_zero_iff, List.filter_eq_nil_iff]
  intro s _
  unfold turnsN
  rw [Bool.not_eq_true, List.any_eq_false]
  intro x hx
  obtain ⟨i, hi, rfl⟩ := List.getElem_of_mem hx
  have hi' : i < cl.length := by rw [passC_len] at hi; exact hi
  simp only [Bool.and_eq_true, decide_eq_true_eq, not_and, Bool.not_eq_true]
  rintro ⟨h1, _⟩
  have hkey : (passC cl now v0 (nms cl 1).length)[i].kind = cl[i].kind := by
    rw [passC_get hi']
    split <;> rfl
  exact turns_again hi' (hkey ▸ h1)
end
end Go.Proofs.Ytoobjfpkdlffpaa
end
section
namespace Go.Proofs.Ytoobjfpkdlffpaa
open Go.RowKit Go.Proofs.Mem
set_option linter.unusedVariables false
set_option linter.unusedSimpArgs false
theorem safe_both {x : Ob} {F F' : Nat → Prop} {w : World} (h : x.Safe F w) (h' : x.Safe F' w) : x.Safe (fun j => F j ∨ F' j) w :=
  ⟨h.1, fun k hk v e ad n c h1 h2 h3 => h3.elim (h.2 k hk v e ad n c h1 h2) (h'.2 k hk v e ad n c h1 h2)⟩
theorem KeepU.tch {n₀ p b : Nat} {W W' : World} {ev : Value} (h : KeepU n₀ p b (fun _ => False) W W') (hn : W.heap.size ≤ n₀) (he : W.cell? ⟨p, 3, none⟩ = some ev) : Tch (PS p b ev) W W' :=
  ⟨h.1, h.2.1, h.2.2.1, h.2.2.2.1, fun i hi hp => (h.frame he (Array.getElem?_eq_getElem hi) (.inl (by omega)) hp (fun h => h)).trans (Array.getElem?_eq_getElem hi).symm⟩
theorem s8_copy2 {B : Nat} {w : World} {p b : Nat} {most : Int} {evs : List Ev} {cl : List Ob} (M : S8 B w p b most evs cl) (hlen : evs.length ≤ 500) :
    Calls Try.prog 7 #[.pointer (some ⟨p, 0, none⟩)] w fun e w' => (∃ p2 b2, e = .returned (.pointer (some ⟨p2, 0, none⟩)) ∧ S8 w.heap.size w' p2 b2 most evs cl ∧ ∀ W W', Below w'.heap.size w' W → KeepU W.heap.size p b (fun _ => False) W W' → S8 w.heap.size W' p2 b2 most evs cl) ∧ Below w.heap.size w w' := by
  obtain ⟨n, D, ev, st, R, hlow, hn, hcl, hgood⟩ := M
  refine (scopy_any w p b n D most _ ev evs st (by omega)).mono ?_
  rintro e w' ⟨p2, b2, ev2, rfl, st2, hb2, hB⟩
  have hps : ∀ j, PS p b ev j → j < w.heap.size := fun j hj => ps_lt st hj
  have hps2 : ∀ j, PS p2 b2 ev2 j → w.heap.size ≤ j := fun j hj => ps_low st2 hb2 hj
  refine ⟨⟨p2, b2, rfl, ⟨n, D, ev2, st2, ?_, hb2, hn, hcl, hgood⟩, fun W W' hbW hK => ?_⟩, hB⟩
  · exact {
      size := R.size
      at1 := fun x hx => by
        obtain ⟨h1, y, h2, h3, h4⟩ := R.at1 x hx
        exact ⟨h1, y, h2, safe_less (safe_old h3.ok hB) hps2, h4⟩
      at0 := R.at0
      ok := R.ok
      uniq := R.uniq }
  · have bW := below_tr hB hbW
    have hT := hK.tch (Nat.le_refl _) (keep_cell bW st.cells.2.2.2)
    have hsz := hbW.size
    have away : ∀ j, PS p2 b2 ev2 j → ¬ PS p b ev j := fun j h h' => by
      have h1 := hps j h'
      have h2 := hps2 j h
      omega
    have st3 := st2.below hbW
    refine ⟨n, D, ev2, ⟨st2.1, hT.bk st3.2.1 (away _ (.inl rfl)), st3.2.2.1.of_block (hT.2.2.2.2 b2 st3.2.2.1.lt (away _ (.inr (.inl rfl)))), hT.own st3.2.2.2 fun g hg => away _ (.inr (.inr hg))⟩, ?_, hb2, hn, hcl, hgood⟩
    exact {
      size := R.size
      at1 := fun x hx => by
        obtain ⟨h1, y, h2, h3, h4⟩ := R.at1 x hx
        have s1 : y.Safe (PS p b ev) W := h3.tch (Tch.of_below bW) fun _ _ h => h
        have s2 : y.Safe (fun j => w.heap.size ≤ j) W := safe_old h3.ok bW
        exact ⟨h1, y, h2, (safe_both s1 s2).tch (hT.mono fun i _ hi => .inl hi) fun i _ hi => .inr (hps2 i hi), h4⟩
      at0 := R.at0
      ok := R.ok
      uniq := R.uniq }
end Go.Proofs.Ytoobjfpkdlffpaa
end
section
namespace Go.Proofs.Ytoobjfpkdlffpaa
open Go.RowKit Go.Proofs.Mem
set_option linter.unusedVariables false
set_option linter.unusedSimpArgs false
def StkOut (w : World) (e : Ending) (w' : World) : Prop :=
  (e = .returned (.pointer none) ∨ ∃ p b evs cl, e = .returned (.pointer (some ⟨p, 0, none⟩)) ∧ S8 w.heap.size w' p b 200 evs cl ∧ evs.length ≤ 60) ∧ Below w.heap.size w w'
theorem CrS.out {B : Nat} {w w' : World} {p b : Nat} {most : Int} {evs : List Ev} {cl : List Ob} {o : Ob} {e : Ending} (M : S8 B w p b most evs cl) (hB : B ≤ w.heap.size) (h : CrS B w p b most evs cl o e w') : ∃ v evs' cl', e = .returned v ∧ S8 B w' p b most evs' cl' ∧ evs'.length ≤ evs.length + 1 ∧ Below B w w' := by
  rcases h with ⟨_, h1, h2⟩ | ⟨_, _, h1, h2⟩ | ⟨_, _, _, h1, h2⟩ | ⟨_, _, _, h1, h2, h3, _⟩
  · exact ⟨_, evs, cl, h1, M.below h2, by omega, h2.mono hB⟩
  · exact ⟨_, evs, cl, h1, M.below h2, by omega, h2.mono hB⟩
  · exact ⟨_, evs, cl, h1, M.below h2, by omega, h2.mono hB⟩
  · exact ⟨_, _, _, h1, h2, by simp, h3⟩
set_option maxHeartbeats 4000000 in
set_option maxRecDepth 100000 in
theorem stocked_any (w : World) (A : Option Addr) (c : Nat) (l : List Ob) (hA : Sl w 47 (.slice A l.length c) l.length (l.flatMap Ob.cells)) (hok : ∀ x ∈ l, x.Ok w) (hlen : l.length ≤ maxLen) :
    Calls Try.prog 5 #[.slice A l.length c] w (StkOut w) := by
  have HL := Lib.hid (And.intro hA hok)
  have hml : maxLen = 9223372036854775807 := rfl
  rw [hml] at hlen
  have hT : Try.prog.underlying 22 = some (.slice 57) := Try.underlying22
  have HU := Lib.hid (Try.underlying57)
  clear hA hok hml
  go_enter Try.func5, Try.ntmps5
  by_cases h60 : 60 < l.length
  · have g1 : (60 : Int) < (l.length : Int) := by omega
    go_wp2_with fail
    go_ret
    exact ⟨.inl rfl, Below.refl _ _⟩
  have g1 : ¬ (60 : Int) < (l.length : Int) := by omega
  go_wp2_with fail
  refine (s8_new 200 w (by omega) (by omega)).mono ?_
  rintro e w1 ⟨p, b, rfl, hM, b1⟩
  have HM0 := Lib.hid hM
  have HB0 := Lib.hid b1
  clear hM b1
  go_wp2_with fail
  go_loopw [16] (fun iv wr => ∃ (k : Nat) (evs : List Ev) (cl : List Ob), k ≤ l.length ∧ iv = .int .i64 k ∧ Hid (S8 w.heap.size wr p b 200 evs cl) ∧ evs.length ≤ k ∧ Hid (Below w.heap.size w wr)) (fun iv wr => l.length - (intOf iv).toNat)
  case atStart => exact ⟨0, [], [], Nat.zero_le _, rfl, HM0, Nat.le_refl _, HB0⟩
  case round =>
    clear HM0 HB0
    obtain ⟨k, evs, cl, hk, rfl, hM, hme, hB⟩ := hrel
    by_cases hlt : k < l.length
    · obtain ⟨b1, o1, rfl, hb1, hadd1, hcell⟩ := Sl.row' (s := 47) (f := Ob.cells) ob_len (by omega) (HL.out.1.below hB.out) k hlt
      have hr : wr.rangeAt b1 (o1 + k * 47) (l[k]).cells := fun j u hj => hcell j u hj
      have hox := (HL.out.2 _ (List.getElem_mem hlt)).below hB.out
      obtain ⟨x, hx⟩ : ∃ x : Ob, x = l[k] := ⟨_, rfl⟩
      rw [← hx] at hr hox
      have hiL := cells_is _ hox
      obtain ⟨L, hL⟩ : ∃ L : Array Value, L = x.cells.toArray := ⟨_, rfl⟩
      rw [← hL] at hiL
      have hlx : x.cells = L.toList := by rw [hL]
      rw [hlx] at hr
      have hzz : Z47.size = L.size := hiL.1.symm
      have kz := Bk.new wr 57 Z47
      have kS := setCells_whole kz hzz
      have bS := below_setCells (g := wr.heap.size) L.toList 0 (below_al wr (.cells Z47 57)) (Nat.le_refl _)
      obtain ⟨W2, hW2⟩ : ∃ W2, W2 = (wr.alloc (.cells Z47 57)).setCells wr.heap.size 0 L.toList := ⟨_, rfl⟩
      rw [← hW2] at kS bS
      obtain ⟨r, hrr⟩ : ∃ r, r = wr.heap.size := ⟨_, rfl⟩
      have hlen' : (L.toList.toArray) = L := by simp
      have HR := Lib.hid (And.intro hr (And.intro kz (And.intro hW2.symm (And.intro hiL (And.intro hzz (And.intro bS (And.intro hlen' (And.intro (hox.below bS) kS))))))))
      have HXL := Lib.hid hL
      clear hr hiL hx hL hlx hzz kz kS bS hW2 hcell hlen' hox hb1 hadd1 hrr
      go_wp2_with (first | (refine wpl_loadat HR.out.1 rfl 57 (.tmp 18) rfl rfl _ HU.out rfl (by simpa using info47 HR.out.2.2.2.1) ?_; rw [HR.out.2.2.2.2.2.2.1]) | (refine wpl_allocg rfl (run_alloc47 rfl _) ?_) | (refine wpl_storeg HR.out.2.1 HR.out.2.2.2.2.1 rfl rfl 57 (.tmp 6) (.tmp 19) rfl rfl rfl (info47 HR.out.2.2.2.1) HR.out.2.2.2.1.2 ?_; rw [HR.out.2.2.1]) | (refine wpl_loadg HR.out.2.2.2.2.2.2.2.2 rfl 57 (.tmp 6) rfl rfl _ HU.out rfl (info47 HR.out.2.2.2.1) ?_))
      rw [HXL.out]
      refine (few_any x W2 HR.out.2.2.2.2.2.2.2.1).mono ?_
      rintro e w3 ⟨⟨bb, rfl⟩, b3⟩
      have kS3 := HR.out.2.2.2.2.2.2.2.2.below' b3
      have d0' : w3.cell? ⟨wr.heap.size, 1, none⟩ = some (.string x.name) := by rw [kS3.cell, HXL.out]; rfl
      have b03 := below_tr HR.out.2.2.2.2.2.1 b3
      have hB3 := below_tr hB.out b03
      have H3 := Lib.hid (And.intro kS3 (And.intro b03 (And.intro hB3 (HR.out.2.2.2.2.2.2.2.1.below b3))))
      clear kS3 b03 hB3 b3
      cases bb with
      | false =>
        go_wp2_with fail
        go_ret
        exact ⟨.inl rfl, H3.out.2.2.1⟩
      | true =>
        by_cases hn : 60 < x.name.size
        · have hn2 : (60 : Int) < (x.name.size : Int) := by omega
          have hn3 : decide ((60 : Int) < (x.name.size : Int)) = true := decide_eq_true hn2
          go_wp2_with fail
          go_ret
          exact ⟨.inl rfl, H3.out.2.2.1⟩
        · have hn2 : ¬ (60 : Int) < (x.name.size : Int) := by omega
          have hn3 : decide ((60 : Int) < (x.name.size : Int)) = false := decide_eq_false hn2
          go_wp2_with (refine wpl_loadg H3.out.1 rfl 57 (.tmp 6) rfl rfl _ HU.out rfl (info47 HR.out.2.2.2.1) ?_)
          rw [HXL.out]
          have hM3 := hM.out.below H3.out.2.1
          refine (s8_create hM3 (by omega) H3.out.2.2.1.size x H3.out.2.2.2).mono ?_
          intro e w4 hc
          obtain ⟨v, evs', cl', rfl, hM4, hl4, hB4⟩ := hc.out hM3 H3.out.2.2.1.size
          have HM4 := Lib.hid hM4
          have HB4 := Lib.hid (H3.out.2.2.1.trans hB4)
          clear hM3 hM4 hB4 hc
          go_wp2_with fail
          exact ⟨⟨k + 1, evs', cl', by omega, by go_num, HM4, by omega, HB4⟩, by simp [intOf]; omega⟩
    · rename World => wA
      have hke : k = l.length := by omega
      subst hke
      go_wp2_with fail
      go_ret
      exact ⟨.inr ⟨p, b, evs, cl, rfl, hM.out, by omega⟩, hB.out⟩
end Go.Proofs.Ytoobjfpkdlffpaa
end
section
namespace Go.Proofs.Ytoobjfpkdlffpaa
open Go.RowKit Go.Proofs.Mem
set_option linter.unusedVariables false
set_option linter.unusedSimpArgs false
theorem keep_ps {B : Nat} {W V : World} {p b n₀ : Nat} {most : Int} {evs : List Ev} {cl : List Ob} {j : Nat} {o : Obj} (M : S8 B W p b most evs cl) (hK : KeepU n₀ p b (fun _ => False) W V) (hn : W.heap.size ≤ n₀) (ho : W.heap[j]? = some o) (hp : j ≠ p) (hb : j ≠ b) (he : ∀ cur, o ≠ .cells cur 91 (0, 0)) : V.heap[j]? = some o := by
  obtain ⟨n, D, ev, st, _⟩ := M
  have hlt := (Array.getElem?_eq_some_iff.1 ho).1
  refine hK.frame st.cells.2.2.2 ho (.inl (by omega)) ?_ (fun h => h)
  rintro (h | h | h)
  · exact hp h
  · exact hb h
  · obtain ⟨cur, h3⟩ := own_cells st.2.2.2 h
    rw [h3] at ho
    injection ho with ho
    exact he cur ho.symm
theorem keep_bk {B : Nat} {W V : World} {p b n₀ g : Nat} {most : Int} {evs : List Ev} {cl : List Ob} {t : TypeId} {cs : Array Value} (M : S8 B W p b most evs cl) (hK : KeepU n₀ p b (fun _ => False) W V) (hn : W.heap.size ≤ n₀) (hk : Bk W g t cs) (hp : g ≠ p) (hb : g ≠ b) (ht : t ≠ 91) : Bk V g t cs :=
  keep_ps M hK hn hk hp hb fun cur e => by injection e with e1 e2; exact ht e2
theorem slen_m (w : World) (p b n : Nat) (D : DataW Value) (h1 : w.cell? ⟨p, 1, none⟩ = some (.map (some b))) (hm : Mp Try.prog w 88 b n D) : Calls Try.prog 14 #[.pointer (some ⟨p, 0, none⟩)] w fun e w' => e = .returned (.int .i64 (Maps.size D)) ∧ w' = w := by
  go_enter Try.func14, Try.ntmps14
  go_wp2_with (refine wpl_len_map rfl _ 83 rfl 88 57 underSt b n D rfl hm ?_)
  go_ret
  exact ⟨rfl, rfl⟩
set_option maxRecDepth 100000 in
def ppF (s0 r5 r6 z : Nat) (Av : Option Addr) (cnt cv : Nat) (k : Int) (f : Nat → Value) : Array Value := #[f 0, f 1, f 2, .pointer (some ⟨s0, 0, none⟩), .pointer (some ⟨s0 + 1, 0, none⟩), .pointer (some ⟨r5, 0, none⟩), .pointer (some ⟨r6, 0, none⟩), f 7, .slice Av cnt cv, .int .i64 0, .pointer (some ⟨z, 0, none⟩), f 11, f 12, f 13, f 14, f 15, f 16, f 17, f 18, f 19, f 20, f 21, f 22, f 23, f 24, f 25, f 26, f 27, f 28, f 29, f 30, f 31, f 32, f 33, f 34, f 35, f 36, f 37, f 38, f 39, f 40, f 41, f 42, f 43, f 44, f 45, f 46, f 47, f 48, f 49, f 50, f 51, f 52, f 53, f 54, f 55, f 56, f 57, f 58, f 59, f 60, .int .i64 k, f 62, f 63, f 64, f 65, f 66, f 67, f 68, f 69, f 70, f 71, f 72, f 73, f 74, f 75, f 76, f 77, f 78, f 79, f 80, f 81, f 82, f 83, f 84, f 85, f 86, f 87, f 88, f 89, f 90, f 91, f 92, f 93, f 94, f 95, f 96, f 97, f 98, f 99, f 100, f 101, f 102, f 103, f 104, f 105, f 106, f 107, f 108, f 109, f 110, f 111, f 112, f 113, f 114, f 115, f 116, f 117, f 118, f 119, f 120, f 121, f 122, f 123, f 124, f 125, f 126, f 127, f 128, f 129, f 130, f 131, f 132, f 133, f 134, f 135, f 136, f 137, f 138, f 139, f 140, f 141, f 142, f 143, f 144, f 145, f 146, f 147, f 148, f 149, f 150, f 151, f 152, f 153, f 154, f 155, f 156, f 157, f 158, f 159, f 160, f 161, f 162, f 163, f 164, f 165, f 166, f 167, f 168, f 169, f 170, f 171, f 172, f 173, f 174, f 175, f 176, f 177, f 178, f 179, f 180, f 181, f 182, f 183]
set_option maxRecDepth 100000 in
def ppG (s0 r5 r6 z : Nat) (Av : Option Addr) (cnt cv : Nat) (k : Int) (q q2 : Nat) (f : Nat → Value) : Array Value := #[f 0, f 1, f 2, .pointer (some ⟨s0, 0, none⟩), .pointer (some ⟨s0 + 1, 0, none⟩), .pointer (some ⟨r5, 0, none⟩), .pointer (some ⟨r6, 0, none⟩), f 7, .slice Av cnt cv, .int .i64 0, .pointer (some ⟨z, 0, none⟩), .pointer (some ⟨q, 0, none⟩), .pointer (some ⟨q2, 0, none⟩), f 13, f 14, f 15, f 16, f 17, f 18, f 19, f 20, f 21, f 22, f 23, f 24, f 25, f 26, f 27, f 28, f 29, f 30, f 31, f 32, f 33, f 34, f 35, f 36, f 37, f 38, f 39, f 40, f 41, f 42, f 43, f 44, f 45, f 46, f 47, f 48, f 49, f 50, f 51, f 52, f 53, f 54, f 55, f 56, f 57, f 58, f 59, f 60, .int .i64 k, f 62, f 63, f 64, f 65, f 66, f 67, f 68, f 69, f 70, f 71, f 72, f 73, f 74, f 75, f 76, f 77, f 78, f 79, f 80, f 81, f 82, f 83, f 84, f 85, f 86, f 87, f 88, f 89, f 90, f 91, f 92, f 93, f 94, f 95, f 96, f 97, f 98, f 99, f 100, f 101, f 102, f 103, f 104, f 105, f 106, f 107, f 108, f 109, f 110, f 111, f 112, f 113, f 114, f 115, f 116, f 117, f 118, f 119, f 120, f 121, f 122, f 123, f 124, f 125, f 126, f 127, f 128, f 129, f 130, f 131, f 132, f 133, f 134, f 135, f 136, f 137, f 138, f 139, f 140, f 141, f 142, f 143, f 144, f 145, f 146, f 147, f 148, f 149, f 150, f 151, f 152, f 153, f 154, f 155, f 156, f 157, f 158, f 159, f 160, f 161, f 162, f 163, f 164, f 165, f 166, f 167, f 168, f 169, f 170, f 171, f 172, f 173, f 174, f 175, f 176, f 177, f 178, f 179, f 180, f 181, f 182, f 183]
def cntK (cl : List Ob) (now : Int) (k : Nat) : Nat := if k ≤ 1 then 0 else cntT cl now (nms cl 1).length
def cntJ (cl : List Ob) (now : Int) (k j : Nat) : Nat := if k = 1 then cntT cl now j else cntK cl now k
theorem cntJ_end (cl : List Ob) (now : Int) (k : Nat) : cntJ cl now k (nms cl (k : Int)).length = cntK cl now (k + 1) := by
  unfold cntJ cntK
  by_cases h : k = 1
  · subst h
    simp
  · rw [if_neg h]
    by_cases h0 : k = 0
    · subst h0
      simp
    · rw [if_neg (by omega), if_neg (by omega)]
theorem cntJ_start (cl : List Ob) (now : Int) (k : Nat) : cntJ cl now k 0 = cntK cl now k := by
  unfold cntJ cntK
  by_cases h : k = 1
  · subst h
    simp [cntT]
  · rw [if_neg h]
structure IsPW (wa : World) (ms : List Nat) (n : Nat) (W : World) : Prop where
  nd : ms.Nodup
  mark : ∀ D ∈ ms, W.heap[D]? = some (.deferred (some [])) ∧ wa.heap.size < D
  bn : Bk W wa.heap.size 3 #[.int .i64 n]
  low : Below wa.heap.size wa W
def IsPI (wa : World) (s0 r5 r6 : Nat) (Av : Option Addr) (cnt cv : Nat) (cl : List Ob) (now : Int) (a : Act) (W : World) : Prop :=
  ∃ (k : Nat) (f : Nat → Value) (ms : List Nat), k ≤ 5 ∧ a = ⟨ppF s0 r5 r6 wa.heap.size Av cnt cv k f, ms.map mkM⟩ ∧ IsPW wa ms (cntK cl now k) W
def ppK (a : Act) : Nat := 5 - (intOf (a.tmps.getD 61 undef)).toNat
theorem isPI_intro {wa : World} {s0 r5 r6 : Nat} {Av : Option Addr} {cnt cv : Nat} {cl : List Ob} {now : Int} {W : World} {ms : List Nat} (t : Array Value) (k : Nat) (h : t = ppF s0 r5 r6 wa.heap.size Av cnt cv k (fun i => t.getD i undef)) (hk : k ≤ 5) (hW : IsPW wa ms (cntK cl now k) W) : IsPI wa s0 r5 r6 Av cnt cv cl now ⟨t, ms.map mkM⟩ W :=
  ⟨k, _, ms, hk, by rw [← h], hW⟩
structure IsPR (wa : World) (q : Nat) (ms : List Nat) (cl : List Ob) (now : Int) (k : Nat) (pre : List Ob) (W : World) : Prop where
  mark : ∀ D ∈ ms, W.heap[D]? = some (.deferred (some [])) ∧ wa.heap.size < D ∧ D < q
  bn : Bk W wa.heap.size 3 #[.int .i64 (cntJ cl now k pre.length)]
  bk : Bk W q 3 #[.int .i64 k]
  low : Below wa.heap.size wa W
  zs : q + 3 ≤ W.heap.size
theorem IsPR.own {wa : World} {q : Nat} {ms : List Nat} {cl : List Ob} {now : Int} {k B : Nat} (hq : q ≤ B) (hw : wa.heap.size ≤ B) : OwnFrom B (IsPR wa q ms cl now k) := fun pre W W' row h hg hr =>
  have hr2 : ∀ r, row = some r → ∃ o : Obj, W.heap[r]? = some o ∧ o.isCells = false := fun r e => (hr r e).2
  { mark := fun D hD => by
      obtain ⟨h1, h2, h3⟩ := h.mark D hD
      refine ⟨(hg.block D (Array.getElem?_eq_some_iff.1 h1).1 fun e => ?_).trans h1, h2, h3⟩
      have := (hr D e.symm).1
      omega
    bn := bk_kept h.bn hg hr2
    bk := bk_kept h.bk hg hr2
    low := h.low.grown hg h.low.size fun r e => Nat.le_trans hw (hr r e).1
    zs := Nat.le_trans h.zs hg.size }
theorem IsPR.below {wa W W' : World} {q k : Nat} {ms : List Nat} {cl : List Ob} {now : Int} {pre : List Ob} (h : IsPR wa q ms cl now k pre W) (hb : Below W.heap.size W W') : IsPR wa q ms cl now k pre W' where
  mark := fun D hD => by
    obtain ⟨h1, h2, h3⟩ := h.mark D hD
    exact ⟨(hb.block D (Array.getElem?_eq_some_iff.1 h1).1).trans h1, h2, h3⟩
  bn := h.bn.below' hb
  bk := h.bk.below' hb
  low := below_tr h.low hb
  zs := Nat.le_trans h.zs hb.size
def IsPpAx (cl : List Ob) (s0 r5 r6 z : Nat) (Av : Option Addr) (cnt cv : Nat) (k q : Nat) (pre : List Ob) (x : Ob) (a : Act) (W : World) : Prop :=
  ∃ q2 f, a = ⟨ppG s0 r5 r6 z Av cnt cv k q q2 f, []⟩ ∧ q + 3 ≤ q2 ∧ Bk W q2 57 x.cells.toArray ∧ KnL cl k pre x W
theorem isPpAx_intro {cl : List Ob} {s0 r5 r6 z : Nat} {Av : Option Addr} {cnt cv k q : Nat} {pre : List Ob} {x : Ob} {W : World} (t : Array Value) (q2 : Nat) (h : t = ppG s0 r5 r6 z Av cnt cv k q q2 (fun i => t.getD i undef)) (hq : q + 3 ≤ q2) (hb : Bk W q2 57 x.cells.toArray) (hk : KnL cl k pre x W) : IsPpAx cl s0 r5 r6 z Av cnt cv k q pre x ⟨t, []⟩ W :=
  ⟨q2, _, by rw [← h], hq, hb, hk⟩
end Go.Proofs.Ytoobjfpkdlffpaa
end
section
namespace Go.Proofs.Ytoobjfpkdlffpaa
open Go.RowKit Go.Proofs.Mem
set_option linter.unusedVariables false
set_option linter.unusedSimpArgs false
set_option maxRecDepth 100000 in
def ppT (q2 r13 : Nat) (f : Nat → Value) : Array Value := #[f 0, f 1, f 2, f 3, f 4, f 5, f 6, f 7, f 8, f 9, f 10, f 11, .pointer (some ⟨q2, 0, none⟩), .pointer (some ⟨r13, 0, none⟩), f 14, f 15, f 16, f 17, f 18, f 19, f 20, f 21, f 22, f 23, f 24, f 25, f 26, f 27, f 28, f 29, f 30, f 31, f 32, f 33, f 34, f 35, f 36, f 37, f 38, f 39, f 40, f 41, f 42, f 43, f 44, f 45, f 46, f 47, f 48, f 49, f 50, f 51, f 52, f 53, f 54, f 55, f 56, f 57, f 58, f 59, f 60, f 61, f 62, f 63, f 64, f 65, f 66, f 67, f 68, f 69, f 70, f 71, f 72, f 73, f 74, f 75, f 76, f 77, f 78, f 79, f 80, f 81, f 82, f 83, f 84, f 85, f 86, f 87, f 88, f 89, f 90, f 91, f 92, f 93, f 94, f 95, f 96, f 97, f 98, f 99, f 100, f 101, f 102, f 103, f 104, f 105, f 106, f 107, f 108, f 109, f 110, f 111, f 112, f 113, f 114, f 115, f 116, f 117, f 118, f 119, f 120, f 121, f 122, f 123, f 124, f 125, f 126, f 127, f 128, f 129, f 130, f 131, f 132, f 133, f 134, f 135, f 136, f 137, f 138, f 139, f 140, f 141, f 142, f 143, f 144, f 145, f 146, f 147, f 148, f 149, f 150, f 151, f 152, f 153, f 154, f 155, f 156, f 157, f 158, f 159, f 160, f 161, f 162, f 163, f 164, f 165, f 166, f 167, f 168, f 169, f 170, f 171, f 172, f 173, f 174, f 175, f 176, f 177, f 178, f 179, f 180, f 181, f 182, f 183]
theorem ppT_of {q2 r13 : Nat} (t : Array Value) (h : t = ppT q2 r13 (fun i => t.getD i undef)) : ∃ f, (⟨t, []⟩ : Act) = ⟨ppT q2 r13 f, []⟩ := ⟨_, by rw [← h]⟩
theorem one_away {w : World} {z s n : Nat} {t : TypeId} {u v : Value} {xs : List Value} (hz : Bk w z t #[u]) (h : Sl w s v n xs) (hs : 2 ≤ s) : RowAway (fun j => j = z) v := by
  intro ad m c hv h0 hf
  obtain ⟨A, c', e', hc, hn, hl, hx⟩ := h
  rw [hv] at e'
  injection e' with e1 e2 e3
  subst e2
  obtain ⟨ad', e4, hlt, hcell⟩ := hx h0
  rw [← e1] at e4
  injection e4 with e4
  subst e4
  have h2 : 1 < xs.length := by
    rw [hl]
    calc 1 < 1 * 2 := by omega
      _ ≤ m * s := Nat.mul_le_mul h0 hs
  have c1 := hcell 1 _ (List.getElem?_eq_getElem h2)
  subst hf
  unfold World.cell? Addr.add at c1
  obtain ⟨b, o, k⟩ := ad
  have hz' : w.heap[b]? = some (.cells #[u] t (0, 0)) := hz
  cases k with
  | none => simp [hz'] at c1
  | some k => simp [hz'] at c1
theorem one_safe {w : World} {z : Nat} {t : TypeId} {u : Value} (hz : Bk w z t #[u]) {x : Ob} (ho : x.Ok w) : x.Safe (fun j => j = z) w := by
  refine ⟨ho, fun k hk v e => ?_⟩
  have hk' := hk
  simp only [rowsAt, List.mem_cons, List.not_mem_nil, or_false] at hk'
  rcases hk' with rfl | rfl | rfl | rfl | rfl | rfl | rfl | rfl | rfl | rfl | rfl | rfl | rfl | rfl <;> (injection e with e; subst e)
  · exact one_away hz ho.w.labels.1 (by decide)
  · exact one_away hz ho.w.select.1 (by decide)
  · exact one_away hz ho.w.tolerate.1 (by decide)
  · exact one_away hz ho.p.labels.1 (by decide)
  · exact one_away hz ho.p.select.1 (by decide)
  · exact one_away hz ho.p.tolerate.1 (by decide)
  · exact one_away hz ho.n.labels.1 (by decide)
  · exact one_away hz ho.n.taints.1 (by decide)
  · exact one_away hz ho.g.labels.1 (by decide)
  · exact one_away hz ho.g.taints.1 (by decide)
  · exact one_away hz ho.h.metrics.1 (by decide)
  · exact one_away hz ho.h.up.policies.1 (by decide)
  · exact one_away hz ho.h.down.policies.1 (by decide)
  · exact one_away hz ho.h.past.1 (by decide)
theorem one_safe2 {w : World} {z r : Nat} {t : TypeId} {u v : Value} (hz : Bk w z t #[u]) {x : Ob} (h : x.Safe (fun j => j = r) w) : x.Safe (fun j => j = r) (w.setCell ⟨z, 0, none⟩ v) := by
  have h1 : x.Safe (fun j => j = z ∨ j = r) w := ⟨h.ok, fun k hk v e ad n c h1 h2 h3 => by
    rcases h3 with h3 | h3
    · exact (one_safe hz h.ok).2 k hk v e ad n c h1 h2 h3
    · exact h.2 k hk v e ad n c h1 h2 h3⟩
  exact Ob.Safe.tch h1 (show Tch (fun j => j = z ∨ j = r) w (w.setCell ⟨z, 0, none⟩ v) from ⟨rfl, rfl, rfl, by simp [World.setCell], fun j _ hj => Below.heap_setCell w ⟨z, 0, none⟩ v j (fun e => hj (.inl e))⟩) fun _ _ h => .inr h
structure Rnd (z : Nat) (A Z : World) : Prop where
  os : Z.os = A.os
  tape : Z.tape = A.tape
  output : Z.output = A.output
  size : A.heap.size ≤ Z.heap.size
  block : ∀ j, j < A.heap.size → j ≠ z → Z.heap[j]? = A.heap[j]?
theorem Rnd.of {z : Nat} {A Z : World} (h : Below A.heap.size A Z) : Rnd z A Z := ⟨h.os, h.tape, h.output, h.size, fun j hj _ => h.block j hj⟩
theorem Rnd.put {z : Nat} {A Z : World} (h : Rnd z A Z) (v : Value) : Rnd z A (Z.setCell ⟨z, 0, none⟩ v) :=
  ⟨h.os, h.tape, h.output, by have := h.size; simpa [World.setCell] using this, fun j hj hn => (Below.heap_setCell Z ⟨z, 0, none⟩ v j hn).trans (h.block j hj hn)⟩
theorem Rnd.step {z : Nat} {A Z Z' : World} (h : Rnd z A Z) (hb : Below A.heap.size Z Z') : Rnd z A Z' :=
  ⟨hb.os.trans h.os, hb.tape.trans h.tape, hb.output.trans h.output, Nat.le_trans h.size hb.size, fun j hj hn => (hb.block j hj).trans (h.block j hj hn)⟩
theorem Rnd.keepL {z n₀ : Nat} {A Z : World} (h : Rnd z A Z) (hn : n₀ ≤ A.heap.size) (hz : z < n₀) : KeepL n₀ (fun j => j = z) A Z :=
  ⟨h.os, h.tape, h.output, h.size, fun i hi hf => h.block i (by omega) hf, fun i o hi ho _ => (h.block i (Array.getElem?_eq_some_iff.1 ho).1 (by omega)).trans ho⟩
theorem Rnd.keeps {z B : Nat} {A Z : World} (h : Rnd z A Z) (hz : z < B) : KeepsFrom B A Z :=
  ⟨h.size, fun j o hj ho _ => (h.block j (Array.getElem?_eq_some_iff.1 ho).1 (by omega)).trans ho⟩
theorem Rnd.pr {wa A Z : World} {q k : Nat} {ms : List Nat} {cl : List Ob} {now : Int} {pre : List Ob} {x : Ob} (h : Rnd wa.heap.size A Z) (hA : IsPR wa q ms cl now k pre A) (hq : wa.heap.size < q) (hc : Bk Z wa.heap.size 3 #[.int .i64 (cntJ cl now k (pre ++ [x]).length)]) : IsPR wa q ms cl now k (pre ++ [x]) Z where
  mark := fun D hD => by
    obtain ⟨h1, h2, h3⟩ := hA.mark D hD
    exact ⟨(h.block D (Array.getElem?_eq_some_iff.1 h1).1 (by omega)).trans h1, h2, h3⟩
  bn := hc
  bk := by
    have h1 : A.heap[q]? = some _ := hA.bk
    exact (h.block q (Array.getElem?_eq_some_iff.1 h1).1 (by omega)).trans h1
  low := ⟨h.os.trans hA.low.os, h.tape.trans hA.low.tape, h.output.trans hA.low.output, Nat.le_trans hA.low.size h.size, fun j hj => (h.block j (by have := hA.low.size; omega) (by omega)).trans (hA.low.block j hj)⟩
  zs := Nat.le_trans hA.zs h.size
def isDefer : Op → Bool
  | .defer _ => true
  | _ => false
theorem plain_some {F : Fence} {l0 : Nat} {l : List Oper} (hf : ∀ f, F.fn f) (hF : F.round = some l0) (h : (l.all fun o => !isDefer o.op) = true) : Plain F l.toArray := by
  refine ⟨hf, fun i o ho ev => ?_⟩
  rw [hF]
  refine Oper.semAt_some l0 ev o fun c e => ?_
  have h1 := List.all_eq_true.1 h o (by
    have h2 : l[i]? = some o := by simpa using ho
    exact List.mem_of_getElem? h2)
  rw [e] at h1
  cases h1
theorem earlyI_skip {F : Fence} {n : Nat} {P : Program} {ops : Array Oper} {Q : Exit → Act → World → Prop} {S : World → Prop} {tail : Act → World → Prop} {i : Nat} {o : Oper} {r : List Nat} {a : Act} {w : World} (hp : Plain F ops) {w1 : World} (hi : ops[i]? = some o) (hw : Region.wanted o (yielded ops a.tmps) = true) (hr : (execOp a.eval o).run P w = .ok .skip w1) (hS : S w1) (h : wpEarlyI F n P ops Q S tail r (a.put o.dst undef) w1) : wpEarlyI F n P ops Q S tail (i :: r) a w := by
  unfold wpEarlyI wpOpIn
  simp only [hi, hw, if_true]
  refine ⟨fun f _ => hp.1 f, ?_⟩
  rw [hp.2 i o hi, hr]
  exact ⟨hS, h⟩
theorem count_put {A B : World} {z C q2 r13 : Nat} {x y : Ob} (hb : Below A.heap.size A B) (hz : Bk B z 3 #[.int .i64 C]) (hC : C < 1000) (hq : Bk B q2 57 x.cells.toArray) (hr : Bk B r13 57 y.cells.toArray) (okx : x.Safe (fun j => j = r13) B) (oky : y.Safe (fun j => j = r13) B) (n : Nat) (hn : n = C + 1) :
    Rnd z A (B.setCell ⟨z, 0, none⟩ (.int .i64 (wrap64 ((C : Int) + 1)))) ∧ Bk (B.setCell ⟨z, 0, none⟩ (.int .i64 (wrap64 ((C : Int) + 1)))) z 3 #[.int .i64 n] ∧ Bk (B.setCell ⟨z, 0, none⟩ (.int .i64 (wrap64 ((C : Int) + 1)))) q2 57 x.cells.toArray ∧
      Bk (B.setCell ⟨z, 0, none⟩ (.int .i64 (wrap64 ((C : Int) + 1)))) r13 57 y.cells.toArray ∧ x.Safe (fun j => j = r13) (B.setCell ⟨z, 0, none⟩ (.int .i64 (wrap64 ((C : Int) + 1)))) ∧ y.Safe (fun j => j = r13) (B.setCell ⟨z, 0, none⟩ (.int .i64 (wrap64 ((C : Int) + 1)))) := by
  have hw : wrap64 ((C : Int) + 1) = (n : Int) := by
    rw [IntWalk.wrap64_in _ (by omega), hn]
    omega
  have ne : ∀ {g : Nat} {o : Ob}, Bk B g 57 o.cells.toArray → g ≠ z := by
    intro g o hg e
    subst e
    have h1 : B.heap[g]? = _ := hz
    have h2 : B.heap[g]? = _ := hg
    rw [h1] at h2
    injection h2 with h2
    injection h2 with _ h2 _
    revert h2
    decide
  rw [hw]
  have h3 := hz.set 0 (.int .i64 (n : Int))
  exact ⟨(Rnd.of hb).put _, h3, hq.far (ne hq) _, hr.far (ne hr) _, one_safe2 hz okx, one_safe2 hz oky⟩
theorem pod_behind {cl : List Ob} {now : Int} {v0 i : Nat} {x y : Ob} {th : Bool} (hi : i < cl.length) (hk : cl[i].kind = 1) (hx : nf x = nf cl[i]) (hy : nf y = nf ((passC cl now v0 (nms cl 1).length)[i]'(by rw [passC_len]; exact hi))) (hth : th = thereB cl x.p.node) :
    (nextPd x.p now th).phase = y.p.phase ∧ (nextPd x.p now th).since = y.p.since ∧ ((y.p.phase == x.p.phase && y.p.since == x.p.since) = !turnsB cl now cl[i]) ∧ (turnsB cl now cl[i] = false → y.version = x.version) := by
  have hnp : (nf x).p = (nf cl[i]).p := by rw [hx]
  have ep1 : x.p.node = cl[i].p.node := (congrArg Pd.node hnp : (nf x).p.node = (nf cl[i]).p.node)
  have ep2 : x.p.since = cl[i].p.since := (congrArg Pd.since hnp : (nf x).p.since = (nf cl[i]).p.since)
  have ep4 : x.p.phase = cl[i].p.phase := (congrArg Pd.phase hnp : (nf x).p.phase = (nf cl[i]).p.phase)
  have h1 : (nf (passX x now th)).p = (nf (passX cl[i] now th)).p := by rw [nf_passX now th hx]
  have h2 : (nextPd x.p now th).phase = (nextPd cl[i].p now th).phase := (congrArg Pd.phase h1 : (nf (passX x now th)).p.phase = (nf (passX cl[i] now th)).p.phase)
  have h3 : (nextPd x.p now th).since = (nextPd cl[i].p now th).since := (congrArg Pd.since h1 : (nf (passX x now th)).p.since = (nf (passX cl[i] now th)).p.since)
  have hn : nextPd cl[i].p now th = nextO cl now cl[i] := by
    rw [hth, ep1]
    rfl
  rw [hn] at h2 h3
  have hy2 : y.p.phase = (nextO cl now cl[i]).phase ∧ y.p.since = (nextO cl now cl[i]).since ∧ (turnsB cl now cl[i] = false → y.version = x.version) := by
    rw [(passC_all hi).2 hk] at hy
    cases ht : turnsB cl now cl[i] with
    | true =>
      rw [ht, if_pos rfl] at hy
      have hp : (nf y).p = (nf (mkV (passOb cl now cl[i]) (v0 + turnAt cl now cl[i]))).p := by rw [hy]
      have a1 : y.p.phase = (mkV (passOb cl now cl[i]) (v0 + turnAt cl now cl[i])).p.phase := (congrArg Pd.phase hp : (nf y).p.phase = (nf (mkV (passOb cl now cl[i]) (v0 + turnAt cl now cl[i]))).p.phase)
      have a2 : y.p.since = (mkV (passOb cl now cl[i]) (v0 + turnAt cl now cl[i])).p.since := (congrArg Pd.since hp : (nf y).p.since = (nf (mkV (passOb cl now cl[i]) (v0 + turnAt cl now cl[i]))).p.since)
      rw [mkV_p (o := passOb cl now cl[i]) hk] at a1 a2
      exact ⟨a1, a2, fun e => by cases e⟩
    | false =>
      rw [ht, if_neg (by simp)] at hy
      have hp : (nf y).p = (nf cl[i]).p := by rw [hy]
      have a1 : y.p.phase = cl[i].p.phase := (congrArg Pd.phase hp : (nf y).p.phase = (nf cl[i]).p.phase)
      have a2 : y.p.since = cl[i].p.since := (congrArg Pd.since hp : (nf y).p.since = (nf cl[i]).p.since)
      have h := ht
      unfold turnsB at h
      rw [Bool.not_eq_false', Bool.and_eq_true, beq_iff_eq, beq_iff_eq] at h
      exact ⟨a1.trans h.1.symm, a2.trans h.2.symm, fun _ => (nf_ver hy).trans (nf_ver hx).symm⟩
  refine ⟨h2.trans hy2.1.symm, h3.trans hy2.2.1.symm, ?_, hy2.2.2⟩
  rw [hy2.1, hy2.2.1, ep2, ep4]
  unfold turnsB
  rw [Bool.not_not]
theorem pod_back {cl : List Ob} {now : Int} {v0 i : Nat} {x y : Ob} (hi : i < cl.length) (hk : cl[i].kind = 1) (hx : nf x = nf cl[i]) (hy : nf y = nf ((passC cl now v0 (nms cl 1).length)[i]'(by rw [passC_len]; exact hi))) :
    nf ⟨y.kind, y.name, x.version, y.w, { y.p with phase := x.p.phase, since := x.p.since }, y.n, y.g, y.h⟩ = nf x := by
  have e : ∀ (o o' : Ob), nf ⟨o.kind, o.name, o'.version, o.w, { o.p with phase := o'.p.phase, since := o'.p.since }, o.n, o.g, o.h⟩ = ⟨(nf o).kind, (nf o).name, (nf o').version, (nf o).w, { (nf o).p with phase := (nf o').p.phase, since := (nf o').p.since }, (nf o).n, (nf o).g, (nf o).h⟩ := fun o o' => rfl
  rw [e, hy, hx, ← e, (passC_all hi).2 hk]
  cases turnsB cl now cl[i] with
  | false =>
    rw [if_neg (by simp)]
  | true =>
    rw [if_pos rfl]
    have hm : mkV (passOb cl now cl[i]) (v0 + turnAt cl now cl[i]) = ⟨cl[i].kind, cl[i].name, ((v0 + turnAt cl now cl[i] : Nat) : Int), cl[i].w, nextO cl now cl[i], cl[i].n, cl[i].g, cl[i].h⟩ := by
      unfold mkV
      rw [dflt_pod (o := passOb cl now cl[i]) hk]
      rfl
    rw [hm]
    have hq : nextO cl now cl[i] = { cl[i].p with phase := (nextO cl now cl[i]).phase, since := (nextO cl now cl[i]).since } := next_same _ _ _
    have h2 : ({ nextO cl now cl[i] with phase := cl[i].p.phase, since := cl[i].p.since } : Pd) = cl[i].p := by rw [hq]
    show nf ⟨cl[i].kind, cl[i].name, cl[i].version, cl[i].w, ({ nextO cl now cl[i] with phase := cl[i].p.phase, since := cl[i].p.since } : Pd), cl[i].n, cl[i].g, cl[i].h⟩ = nf cl[i]
    rw [h2]
end Go.Proofs.Ytoobjfpkdlffpaa
end
