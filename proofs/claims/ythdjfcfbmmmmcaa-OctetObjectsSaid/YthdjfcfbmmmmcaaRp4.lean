/-
  Reading rows with a reader: the walks of row of package octet. (printed by wip/gen_rp.. )
-/
import Derived.Test.YthdjfcfbmmmmcaaRp3
import Derived.Test.YthdjfcfbmmmmcaaTail
import Derived.Deep.AppendLies
namespace Go.Proofs.Ythdjfcfbmmmmcaa
open Go.RowKit Go.Proofs.Mem
set_option linter.unusedVariables false
set_option linter.unusedSimpArgs false
section
variable {α : Type} {d : Dec α}
theorem dRow_snoc : ∀ (k : Nat) (bs b b' : List UInt8) (l : List α) (x : α), dRow d k bs = some (l, b) → d b = some (x, b') → dRow d (k + 1) bs = some (l ++ [x], b')
  | 0, bs, b, b', l, x, h, hd => by
    simp only [dRow, Option.some.injEq, Prod.mk.injEq] at h
    obtain ⟨rfl, rfl⟩ := h
    simp only [dRow, Dec.then, hd]
    rfl
  | k + 1, bs, b, b', l, x, h, hd => by
    have h' : (d.then fun x => (dRow d k).then fun l bs => some (x :: l, bs)) bs = some (l, b) := h
    show (d.then fun x => (dRow d (k + 1)).then fun l bs => some (x :: l, bs)) bs = _
    simp only [Dec.then] at h' ⊢
    split at h'
    · cases h'
    · rename_i y r hy
      split at h'
      · cases h'
      · rename_i m r2 hm
        simp only [Option.some.injEq, Prod.mk.injEq] at h'
        obtain ⟨rfl, rfl⟩ := h'
        rw [dRow_snoc k r r2 b' m x hm hd]
        rfl
theorem dRow_fail : ∀ (k n : Nat) (bs b : List UInt8) (l : List α), k < n → dRow d k bs = some (l, b) → d b = none → dRow d n bs = none
  | 0, n + 1, bs, b, l, _, h, hd => by
    simp only [dRow, Option.some.injEq, Prod.mk.injEq] at h
    obtain ⟨rfl, rfl⟩ := h
    simp only [dRow, Dec.then, hd]
  | k + 1, n + 1, bs, b, l, hk, h, hd => by
    have h' : (d.then fun x => (dRow d k).then fun l bs => some (x :: l, bs)) bs = some (l, b) := h
    show (d.then fun x => (dRow d n).then fun l bs => some (x :: l, bs)) bs = none
    simp only [Dec.then] at h' ⊢
    split at h'
    · cases h'
    · rename_i y r hy
      split at h'
      · cases h'
      · rename_i m r2 hm
        simp only [Option.some.injEq, Prod.mk.injEq] at h'
        obtain ⟨rfl, rfl⟩ := h'
        rw [dRow_fail k n r r2 m (by omega) hm hd]
  | k, 0, _, _, _, h, _, _ => by omega
end
theorem bad_st {w : World} {p : Nat} {r : Option Nat} {st : Option (List UInt8)} (h : RS w p r st) : Calls Try.prog 8 #[.pointer (some ⟨p, 0, none⟩)] w fun e w' => e = .returned (.bool st.isNone) ∧ w = w' := by
  cases st with
  | none => obtain ⟨bs, h1, h2⟩ := h; exact bad_any w h1
  | some bs => exact bad_any w h.1
theorem own_keep {w w' : World} {base : Nat} {e : TypeId} {size n : Nat} {v : Value} {xs : List Value} (h : w.ownsRow base e size v n xs) (hb : ∀ g, v.ownBlock = some g → w'.heap[g]? = w.heap[g]?) : w'.ownsRow base e size v n xs := by
  obtain ⟨hl, h2⟩ := h
  refine ⟨hl, ?_⟩
  rcases h2 with h2 | ⟨g, cap, cur, hv, hg, hh, r⟩
  · exact .inl h2
  · exact .inr ⟨g, cap, cur, hv, hg, (hb g (by rw [hv]; rfl)).trans hh, r⟩
theorem RPre.fresh {w : World} {p : Nat} {r : Option Nat} {fb t : Nat} {ty : TypeId} {cs : Array Value} {st : Option (List UInt8)} (h : RPre w p r fb t ty cs st) (ty2 : TypeId) (zs : Array Value) (hz : One zs) : RPre (w.alloc (.cells zs ty2)) p r fb w.heap.size ty2 zs st := by
  have hb := below_al w (.cells zs ty2)
  obtain ⟨lg, hf⟩ := h.fld
  exact ⟨h.rs.below hb, ⟨lg, hf.below' hb⟩, Bk.new _ _ _, hz, by have := h.rs.lt; omega, fun e => by have := h.rs.rlt _ e; omega, by have := hf.lt; omega, h.fp⟩
theorem info_rLab : (Try.prog.info? 106).map (fun i => (i.zero, i.size, i.bytes)) = some (some (.agg #[.string ⟨#[]⟩, .string ⟨#[]⟩]), 2, 32) := by kernel_rfl
theorem cells_rLab {cs : Array Value} {x : Lab} (hs : cs.size = 2) (hx : cs[0]? = some (.string x.key) ∧ cs[1]? = some (.string x.value)) : cs = #[.string x.key, .string x.value] := by
  apply Array.ext_getElem?
  intro i
  rcases i with _ | _ | i
  · rw [hx.1]; rfl
  · rw [hx.2]; rfl
  · rw [Array.getElem?_eq_none (by omega), Array.getElem?_eq_none (by simp)]
set_option maxHeartbeats 4000000 in
set_option maxRecDepth 100000 in
theorem rowLab_rd {w : World} {p : Nat} {r : Option Nat} {fb t : Nat} {ty : TypeId} {cs : Array Value} {st : Option (List UInt8)} (h : RPre w p r fb t ty cs st) (o : Nat) (ho : o < cs.size) (hz : cs[o]? = some (.slice none 0 0)) :
    Calls Try.prog 46 #[.pointer (some ⟨fb, 0, none⟩), .pointer (some ⟨t, o, none⟩), .func (.func 47) #[] #[]] w (RPost p r t ty o 1 st cs w (dRows dLab) (fun w' cs' l => ∃ v, cs'[o]? = some v ∧ w'.ownsRow w.heap.size 106 2 v l.length (l.flatMap Lab.cells))) := by
  obtain ⟨lg, hf⟩ := h.fld
  have c1 := hf.cell 1
  have C := Lib.hid (get_st 1 (.inl rfl) h.rs)
  have H0 := Lib.hid h
  obtain ⟨ti, hi0, hz0, hz1, hz2⟩ := info_parts info_rLab
  have HI := Lib.hid (And.intro hi0 (And.intro hz0 (And.intro hz1 hz2)))
  have hoz : One #[.string ⟨#[]⟩, .string ⟨#[]⟩] := by
    intro v hv
    simp at hv
    rcases hv with rfl | rfl | rfl <;> rfl
  clear h hf hi0 hz0 hz1 hz2
  go_enter Try.func46, Try.ntmps46
  go_wp2_with fail
  refine C.out.mono ?_
  rintro e w1 ⟨n, st1, rfl, hR1, hT1, hS1⟩
  have H1 := Lib.hid (H0.out.next hR1 (hT1.bk H0.out.tk H0.out.tp (by simp)) H0.out.one hT1.weak)
  clear c1
  cases st1 with
  | none =>
    have HN := Lib.hid (show ∀ w', PTouch p (some t) w w' → (∃ cs', RS w' p r none ∧ Bk w' t ty cs' ∧ Fr cs cs' o 1 ∧ One cs') → RPost p r t ty o 1 st cs w (dRows dLab) (fun w' cs' l => ∃ v, cs'[o]? = some v ∧ w'.ownsRow w.heap.size 106 2 v l.length (l.flatMap Lab.cells)) (.returned (.tuple #[])) w' from by
      rintro w' hT ⟨cs', a1, a2, a3, a4⟩
      refine ⟨rfl, none, cs', a1, a2, a3, a4, hT, fun _ e => (by cases e), fun _ bs e => ?_⟩
      unfold dRows
      simp only [Dec.then, hS1.2 rfl bs e])
    have HT := Lib.hid hT1
    clear hR1 hT1 hS1
    go_wp2_with fail
    go_loopw [60] (fun i wr => i = .int .u64 0 ∧ wr = w1) (fun i wr => 0)
    case atStart => exact ⟨rfl, rfl⟩
    case round =>
      obtain ⟨rfl, rfl⟩ := hrel
      rcases Nat.eq_zero_or_pos n with h0 | h0
      · subst h0
        have HF := HN.out wr HT.out.weak ⟨cs, H1.out.rs, H1.out.tk, Fr.refl _ _ _, H1.out.one⟩
        have HFF := Lib.hid HF
        clear HF
        go_wp2_with fail
        exact bodyPost_end (results_none rfl _ _ _) rfl HFF.out
      · have h0' : (0 : Int) < (n : Int) := by omega
        have H2 := Lib.hid (H1.out.fresh 106 #[.string ⟨#[]⟩, .string ⟨#[]⟩] hoz)
        go_wp2_with fail
        refine (label_rd H2.out 0 (by simp)).mono ?_
        rintro e w2 ⟨rfl, st2, cs2, hR2, tk2, F2, one2, T2, S2⟩
        have hst : st2 = none := by
          cases st2 with
          | none => rfl
          | some rest => obtain ⟨bs, x, h, _⟩ := S2.1 rest rfl; cases h
        subst hst
        have H3 := H2.out.next hR2 tk2 one2 T2
        obtain ⟨lg3, hf3⟩ := H3.fld
        have c3 := hf3.cell 1
        have CB := Lib.hid (bad_st hR2)
        have HF := Lib.hid (HN.out w2 (((HT.out.weak).trans (PTouch.of_below (p := p) (r := some t) (below_al wr (.cells #[.string ⟨#[]⟩, .string ⟨#[]⟩] 106))) (.inl rfl)).trans T2 (.inr ⟨wr.heap.size, rfl, HT.out.size⟩)) ⟨cs, hR2, (T2.bk (H1.out.tk.alloc _) H0.out.tp (by have := H1.out.tk.lt; simp; omega)), Fr.refl _ _ _, H1.out.one⟩)
        clear hR2 tk2 F2 T2 S2 hf3 H3
        go_wp2_with fail
        refine CB.out.mono ?_
        rintro e wz ⟨rfl, rfl⟩
        go_wp2_with fail
        exact bodyPost_ret (results_none rfl _ _ _) rfl HF.out
  | some b1 =>
    have hn : n ≤ 255 := by
      obtain ⟨bs, x, g1, g2, g3⟩ := hS1.1 b1 rfl
      have := ((codec_num 1).just _ _ _ g2).1
      omega
    have HS1 := Lib.hid hS1
    have HT := Lib.hid hT1
    have hnn : (n : Int) ≤ 255 := by omega
    clear hR1 hT1 hS1
    go_wp2_with fail
    go_loopw [60] (fun i wr => ∃ (k : Nat) (l : List Lab) (b2 : List UInt8) (v : Value), i = .int .u64 k ∧ k ≤ n ∧ l.length = k ∧ RPre wr p r fb t ty (cs.setIfInBounds o v) (some b2) ∧ wr.ownsRow w.heap.size 106 2 v k (l.flatMap Lab.cells) ∧ dRow dLab k b1 = some (l, b2) ∧ PTouch p (some t) w wr) (fun i wr => n - (intOf i).toNat)
    case atStart =>
      refine ⟨0, [], b1, .slice none 0 0, rfl, by omega, rfl, ?_, World.ownsRow_nil .., rfl, HT.out.weak⟩
      have e : cs.setIfInBounds o (.slice none 0 0) = cs := by
        apply Array.ext_getElem?
        intro i
        rcases Nat.decEq i o with hio | hio
        · rw [Array.getElem?_setIfInBounds_ne (by omega)]
        · subst hio
          rw [Array.getElem?_setIfInBounds_self_of_lt ho, hz]
      rw [e]
      exact H1.out
    case round =>
      obtain ⟨k, l, b2, v, rfl, hk, hl, hP, hO, hD, hTT⟩ := hrel
      rcases Nat.lt_or_ge k n with hlt | hge
      · have hlt' : (k : Int) < (n : Int) := by omega
        have H2 := Lib.hid (hP.fresh 106 #[.string ⟨#[]⟩, .string ⟨#[]⟩] hoz)
        have HP := Lib.hid (And.intro hP (And.intro hO (And.intro hD (And.intro hTT hl))))
        clear hP hO hD hTT
        go_wp2_with fail
        refine (label_rd H2.out 0 (by simp)).mono ?_
        rintro e w2 ⟨rfl, st2, cs2, hR2, tk2, F2, one2, T2, S2⟩
        have H3 := Lib.hid (H2.out.next hR2 tk2 one2 T2)
        obtain ⟨lg3, hf3⟩ := H3.out.fld
        have c3 := hf3.cell 1
        have CB := Lib.hid (bad_st hR2)
        have hwl := HP.out.2.2.2.1.size
        have htl := HP.out.1.tk.lt
        have hTw : PTouch p (some t) w w2 := ((HP.out.2.2.2.1).trans (PTouch.of_below (p := p) (r := some t) (below_al wr (.cells #[.string ⟨#[]⟩, .string ⟨#[]⟩] 106))) (.inl rfl)).trans T2 (.inr ⟨wr.heap.size, rfl, hwl⟩)
        have hkt : Bk w2 t ty (cs.setIfInBounds o v) := T2.bk (HP.out.1.tk.alloc _) H0.out.tp (by simp; omega)
        cases st2 with
        | none =>
          have HF := Lib.hid (show RPost p r t ty o 1 st cs w (dRows dLab) (fun w' cs' l => ∃ v, cs'[o]? = some v ∧ w'.ownsRow w.heap.size 106 2 v l.length (l.flatMap Lab.cells)) (.returned (.tuple #[])) w2 from by
            refine ⟨rfl, none, cs.setIfInBounds o v, hR2, hkt, Fr.set _ _ _, HP.out.1.one, hTw, fun _ e => (by cases e), fun _ bs e => ?_⟩
            obtain ⟨bs', x, g1, g2, g3⟩ := HS1.out.1 b1 rfl
            rw [e] at g1
            injection g1 with g1
            subst g1 g3
            unfold dRows
            simp only [Dec.then, g2]
            exact dRow_fail k _ b1 b2 l hlt HP.out.2.2.1 (S2.2 rfl b2 rfl))
          clear hR2 tk2 F2 T2 S2 hf3 hTw hkt
          go_wp2_with fail
          refine CB.out.mono ?_
          rintro e wz ⟨rfl, rfl⟩
          go_wp2_with fail
          exact bodyPost_ret (results_none rfl _ _ _) rfl HF.out
        | some b3 =>
          obtain ⟨bs', x, g1, g2, hx⟩ := S2.1 b3 rfl
          injection g1 with g1
          subst g1
          obtain rfl := cells_rLab (x := x) (by have := F2.size; simpa using this) (by simpa using hx)
          have HX := Lib.hid g2
          have own2 : w2.ownsRow w.heap.size 106 2 v k (l.flatMap Lab.cells) := own_keep HP.out.2.1 fun g hg => by
            have h1 := (HP.out.2.1.lt g hg)
            have h2 := H0.out.rs.lt
            rw [T2.heap g (by rw [World.size_alloc]; omega) (by omega) (by simp; omega)]
            exact Below.heap_alloc wr _ g h1.2
          obtain ⟨g8, hg8⟩ : ∃ g8, g8 = wr.heap.size := ⟨_, rfl⟩
          rw [← hg8] at tk2 T2 ⊢
          have hg8w : w.heap.size ≤ g8 := by rw [hg8]; exact hwl
          have hg8l : g8 < w2.heap.size := tk2.lt
          have hvg8 : ∀ g, v.ownBlock = some g → g ≠ g8 := fun g hg => by have := (HP.out.2.1.lt g hg).2; omega
          clear hg8
          have HB := Lib.hid (And.intro hR2 (And.intro hkt (And.intro hTw tk2)))
          have hkv : (cs.setIfInBounds o v)[o]? = some v := Array.getElem?_setIfInBounds_self_of_lt ho
          have HO := Lib.hid own2
          have hown : ∀ g, v.ownBlock = some g → w.heap.size ≤ g ∧ g < w2.heap.size := fun g hg => own2.lt g hg
          clear hR2 hTw T2 S2 hf3 own2 g2 hx F2 hkt tk2
          go_wp2_with fail
          refine CB.out.mono ?_
          rintro e wz ⟨rfl, rfl⟩
          go_wp2_with fail
          have y0 := HB.out.2.1.cell o
          rw [hkv] at y0
          have x0 := HB.out.2.2.2.cell 0
          have x1 := HB.out.2.2.2.cell 1
          have htw := H0.out.tk.lt
          have hpw := H0.out.rs.lt
          refine wp_region_reads 5 2 (fun w' => w'.cell? ⟨t, o, none⟩ = some v ∧ w'.cell? ⟨g8, 0, none⟩ = some (.string x.key) ∧ w'.cell? ⟨g8, 1, none⟩ = some (.string x.value)) (by kernel_rfl) (by kernel_rfl) (fun c a d v w h => by cases d <;> exact h) ⟨y0, x0, x1⟩ ?_
          simp only [List.take_succ_cons, List.take_zero, List.drop_succ_cons, List.drop_zero]
          iterate 5
            refine reads_step (v := ?_) (by rfl) (fun w' hS => ?_) ?_
            rotate_left
            · have u0 := hS.1
              have u1 := hS.2.1
              have u2 := hS.2.2
              clear hS
              go_simp
              with_reducible rfl
            simp only [Act.put, List.setIfInBounds_toArray, List.set_cons_zero, List.set_cons_succ]
          refine reads_nil ?_
          refine early_step rfl (by rfl) ?_
          have s0 : ∀ o', (w2.alloc o').cell? ⟨t, o, none⟩ = some v := fun o' => (HB.out.2.1.alloc o').cell o |>.trans hkv
          have s1 : ∀ o', (w2.alloc o').cell? ⟨g8, 0, none⟩ = some (.string x.key) := fun o' => (HB.out.2.2.2.alloc o').cell 0
          have s2 : ∀ o', (w2.alloc o').cell? ⟨g8, 1, none⟩ = some (.string x.value) := fun o' => (HB.out.2.2.2.alloc o').cell 1
          go_simp
          refine early_step rfl (by rfl) ?_
          refine wp_append_lies _ (.tmp 73) (.tmp 75) 30 rfl w.heap.size 106 ti _ 2 32 Try.underlying30 HI.out.1 HI.out.2.1 HI.out.2.2.1 HI.out.2.2.2 rfl (by omega) v k (l.flatMap Lab.cells) rfl ((HO.out.alloc _).drew) ⟨w2.heap.size, 0, none⟩ 1 1 [.string x.key, .string x.value] rfl rfl (World.news_of_block (cs := #[.string x.key, .string x.value]) (t := 106) (fr := (0, 0)) (heap_alloc_new w2 _)) (by simp [Value.oneCell']) (by omega) (by unfold maxLen; omega) (by omega) (by simp; omega) (w2.heap.size + 1) (by simp) ?_
          intro g cap w3 hown3 hg3 hat hlt3
          have hnv : ∀ b, b < w.heap.size → some b ≠ v.ownBlock := fun b hb e => by have := (hown b e.symm).1; omega
          have B23 : ∀ b, b < w2.heap.size → some b ≠ v.ownBlock → w3.heap[b]? = w2.heap[b]? := fun b h1 h2 => (hg3.block b (by simp; omega) h2).trans (Below.heap_alloc w2 _ b h1)
          have S23 : w2.heap.size ≤ w3.heap.size := by have := hg3.size; simp at this; omega
          have kt3 : Bk w3 t ty (cs.setIfInBounds o v) := (B23 t HB.out.2.1.lt (hnv t htw)).trans HB.out.2.1
          have k83 : Bk w3 g8 106 #[.string x.key, .string x.value] := (B23 g8 hg8l (fun e => hvg8 _ e.symm rfl)).trans HB.out.2.2.2
          refine ⟨⟨(kt3.cell o).trans hkv, k83.cell 0, k83.cell 1⟩, ?_⟩
          simp only [wpEarly]
          simp only [Act.put, List.setIfInBounds_toArray, List.set_cons_zero, List.set_cons_succ]
          have z0 := (kt3.cell o).trans hkv
          have fz := kt3.frozen o
          have hgt : g ≠ t := fun e => by
            rcases hat with h | h
            · have := (hown g h).1; omega
            · omega
          have HF := Lib.hid (show ∃ v', v' = .slice (some ⟨g, 0, none⟩) (k + 1) cap ∧ RPre (w3.setCell ⟨t, o, none⟩ v') p r fb t ty (cs.setIfInBounds o v') (some b3) ∧ (w3.setCell ⟨t, o, none⟩ v').ownsRow w.heap.size 106 2 v' (k + 1) ((l ++ [x]).flatMap Lab.cells) ∧ dRow dLab (k + 1) b1 = some (l ++ [x], b3) ∧ PTouch p (some t) w (w3.setCell ⟨t, o, none⟩ v') from by
            refine ⟨_, rfl, ⟨?_, ?_, ?_, H0.out.one.set o rfl, H0.out.tp, H0.out.tr, H0.out.ft, H0.out.fp⟩, ?_, dRow_snoc k b1 b2 b3 l x HP.out.2.2.1 HX.out, ?_⟩
            · refine rs_set (HB.out.1.keep S23 (B23 p HB.out.1.lt (hnv p hpw)) fun k' hk' => B23 k' (HB.out.1.rlt k' hk') (hnv k' (H0.out.rs.rlt k' hk'))) H0.out.tp H0.out.tr _ _
            · obtain ⟨lg', hf'⟩ := H3.out.fld
              obtain ⟨lg0, hf0⟩ := H0.out.fld
              exact ⟨lg', Bk.far ((B23 fb hf'.lt (hnv fb hf0.lt)).trans hf') (by simpa using H0.out.ft) _⟩
            · have := kt3.set o (.slice (some ⟨g, 0, none⟩) (k + 1) cap)
              rwa [Array.setIfInBounds_setIfInBounds] at this
            · have h5 := own_keep (w' := w3.setCell ⟨t, o, none⟩ (.slice (some ⟨g, 0, none⟩) (k + 1) cap)) hown3 (fun g' hg' => Below.heap_setCell _ _ _ _ (by
                have : g = g' := by simpa [Value.ownBlock] using hg'
                simp; omega))
              rw [List.flatMap_append]
              exact h5
            · refine PTouch.setT (a := ⟨t, o, none⟩) ?_ rfl _
              have hA : PTouch p (some t) w (w2.alloc (.cells #[.string x.key, .string x.value] 106)).drew := HB.out.2.2.1.trans (PTouch.of_below (p := p) (r := some t) ((below_al w2 (.cells #[.string x.key, .string x.value] 106)).drew)) (.inl rfl)
              cases hvb : v.ownBlock with
              | none => exact hA.trans (PTouch.of_below (p := p) (r := some t) ⟨hg3.os, hg3.tape, hg3.output, hg3.size, fun b hb => hg3.block b hb (by rw [hvb]; simp)⟩) (.inl rfl)
              | some g' => exact hA.grown hg3 (.inr ⟨g', hvb, (hown g' hvb).1⟩))
          clear kt3 k83 hown3 hg3 S23 B23 hnv s0 s1 s2 y0 hkv htw hpw hat hgt
          go_wp2_with fail
          obtain ⟨v', rfl, f1, f2, f3, f4⟩ := HF.out
          exact ⟨⟨k + 1, l ++ [x], b3, _, by go_num, by omega, by simp [HP.out.2.2.2.2], f1, f2, f3, f4⟩, by simp [intOf]; omega⟩
      · have he : k = n := by omega
        subst he
        have HF := Lib.hid (show RPost p r t ty o 1 st cs w (dRows dLab) (fun w' cs' l => ∃ v, cs'[o]? = some v ∧ w'.ownsRow w.heap.size 106 2 v l.length (l.flatMap Lab.cells)) (.returned (.tuple #[])) wr from by
          refine ⟨rfl, some b2, cs.setIfInBounds o v, hP.rs, hP.tk, Fr.set _ _ _, hP.one, hTT, fun rest e => ?_, fun e => (by cases e)⟩
          injection e with e
          subst e
          obtain ⟨bs, x, g1, g2, g3⟩ := HS1.out.1 b1 rfl
          subst g3
          refine ⟨bs, l, g1, ?_, v, Array.getElem?_setIfInBounds_self_of_lt ho, by rw [hl]; exact hO⟩
          unfold dRows
          simp only [Dec.then, g2]
          exact hD)
        clear hP hO hD hTT
        go_wp2_with fail
        exact bodyPost_end (results_none rfl _ _ _) rfl HF.out
theorem info_rReq : (Try.prog.info? 108).map (fun i => (i.zero, i.size, i.bytes)) = some (some (.agg #[.string ⟨#[]⟩, .string ⟨#[]⟩, .int .i64 0]), 3, 40) := by kernel_rfl
theorem cells_rReq {cs : Array Value} {x : Req} (hs : cs.size = 3) (hx : cs[0]? = some (.string x.key) ∧ cs[1]? = some (.string x.value) ∧ cs[2]? = some (.int .i64 x.op)) : cs = #[.string x.key, .string x.value, .int .i64 x.op] := by
  apply Array.ext_getElem?
  intro i
  rcases i with _ | _ | _ | i
  · rw [hx.1]; rfl
  · rw [hx.2.1]; rfl
  · rw [hx.2.2]; rfl
  · rw [Array.getElem?_eq_none (by omega), Array.getElem?_eq_none (by simp)]
set_option maxHeartbeats 4000000 in
set_option maxRecDepth 100000 in
theorem rowReq_rd {w : World} {p : Nat} {r : Option Nat} {fb t : Nat} {ty : TypeId} {cs : Array Value} {st : Option (List UInt8)} (h : RPre w p r fb t ty cs st) (o : Nat) (ho : o < cs.size) (hz : cs[o]? = some (.slice none 0 0)) :
    Calls Try.prog 48 #[.pointer (some ⟨fb, 0, none⟩), .pointer (some ⟨t, o, none⟩), .func (.func 49) #[] #[]] w (RPost p r t ty o 1 st cs w (dRows dReq) (fun w' cs' l => ∃ v, cs'[o]? = some v ∧ w'.ownsRow w.heap.size 108 3 v l.length (l.flatMap Req.cells))) := by
  obtain ⟨lg, hf⟩ := h.fld
  have c1 := hf.cell 1
  have C := Lib.hid (get_st 1 (.inl rfl) h.rs)
  have H0 := Lib.hid h
  obtain ⟨ti, hi0, hz0, hz1, hz2⟩ := info_parts info_rReq
  have HI := Lib.hid (And.intro hi0 (And.intro hz0 (And.intro hz1 hz2)))
  have hoz : One #[.string ⟨#[]⟩, .string ⟨#[]⟩, .int .i64 0] := by
    intro v hv
    simp at hv
    rcases hv with rfl | rfl | rfl <;> rfl
  clear h hf hi0 hz0 hz1 hz2
  go_enter Try.func48, Try.ntmps48
  go_wp2_with fail
  refine C.out.mono ?_
  rintro e w1 ⟨n, st1, rfl, hR1, hT1, hS1⟩
  have H1 := Lib.hid (H0.out.next hR1 (hT1.bk H0.out.tk H0.out.tp (by simp)) H0.out.one hT1.weak)
  clear c1
  cases st1 with
  | none =>
    have HN := Lib.hid (show ∀ w', PTouch p (some t) w w' → (∃ cs', RS w' p r none ∧ Bk w' t ty cs' ∧ Fr cs cs' o 1 ∧ One cs') → RPost p r t ty o 1 st cs w (dRows dReq) (fun w' cs' l => ∃ v, cs'[o]? = some v ∧ w'.ownsRow w.heap.size 108 3 v l.length (l.flatMap Req.cells)) (.returned (.tuple #[])) w' from by
      rintro w' hT ⟨cs', a1, a2, a3, a4⟩
      refine ⟨rfl, none, cs', a1, a2, a3, a4, hT, fun _ e => (by cases e), fun _ bs e => ?_⟩
      unfold dRows
      simp only [Dec.then, hS1.2 rfl bs e])
    have HT := Lib.hid hT1
    clear hR1 hT1 hS1
    go_wp2_with fail
    go_loopw [60] (fun i wr => i = .int .u64 0 ∧ wr = w1) (fun i wr => 0)
    case atStart => exact ⟨rfl, rfl⟩
    case round =>
      obtain ⟨rfl, rfl⟩ := hrel
      rcases Nat.eq_zero_or_pos n with h0 | h0
      · subst h0
        have HF := HN.out wr HT.out.weak ⟨cs, H1.out.rs, H1.out.tk, Fr.refl _ _ _, H1.out.one⟩
        have HFF := Lib.hid HF
        clear HF
        go_wp2_with fail
        exact bodyPost_end (results_none rfl _ _ _) rfl HFF.out
      · have h0' : (0 : Int) < (n : Int) := by omega
        have H2 := Lib.hid (H1.out.fresh 108 #[.string ⟨#[]⟩, .string ⟨#[]⟩, .int .i64 0] hoz)
        go_wp2_with fail
        refine (require_rd H2.out 0 (by simp)).mono ?_
        rintro e w2 ⟨rfl, st2, cs2, hR2, tk2, F2, one2, T2, S2⟩
        have hst : st2 = none := by
          cases st2 with
          | none => rfl
          | some rest => obtain ⟨bs, x, h, _⟩ := S2.1 rest rfl; cases h
        subst hst
        have H3 := H2.out.next hR2 tk2 one2 T2
        obtain ⟨lg3, hf3⟩ := H3.fld
        have c3 := hf3.cell 1
        have CB := Lib.hid (bad_st hR2)
        have HF := Lib.hid (HN.out w2 (((HT.out.weak).trans (PTouch.of_below (p := p) (r := some t) (below_al wr (.cells #[.string ⟨#[]⟩, .string ⟨#[]⟩, .int .i64 0] 108))) (.inl rfl)).trans T2 (.inr ⟨wr.heap.size, rfl, HT.out.size⟩)) ⟨cs, hR2, (T2.bk (H1.out.tk.alloc _) H0.out.tp (by have := H1.out.tk.lt; simp; omega)), Fr.refl _ _ _, H1.out.one⟩)
        clear hR2 tk2 F2 T2 S2 hf3 H3
        go_wp2_with fail
        refine CB.out.mono ?_
        rintro e wz ⟨rfl, rfl⟩
        go_wp2_with fail
        exact bodyPost_ret (results_none rfl _ _ _) rfl HF.out
  | some b1 =>
    have hn : n ≤ 255 := by
      obtain ⟨bs, x, g1, g2, g3⟩ := hS1.1 b1 rfl
      have := ((codec_num 1).just _ _ _ g2).1
      omega
    have HS1 := Lib.hid hS1
    have HT := Lib.hid hT1
    have hnn : (n : Int) ≤ 255 := by omega
    clear hR1 hT1 hS1
    go_wp2_with fail
    go_loopw [60] (fun i wr => ∃ (k : Nat) (l : List Req) (b2 : List UInt8) (v : Value), i = .int .u64 k ∧ k ≤ n ∧ l.length = k ∧ RPre wr p r fb t ty (cs.setIfInBounds o v) (some b2) ∧ wr.ownsRow w.heap.size 108 3 v k (l.flatMap Req.cells) ∧ dRow dReq k b1 = some (l, b2) ∧ PTouch p (some t) w wr) (fun i wr => n - (intOf i).toNat)
    case atStart =>
      refine ⟨0, [], b1, .slice none 0 0, rfl, by omega, rfl, ?_, World.ownsRow_nil .., rfl, HT.out.weak⟩
      have e : cs.setIfInBounds o (.slice none 0 0) = cs := by
        apply Array.ext_getElem?
        intro i
        rcases Nat.decEq i o with hio | hio
        · rw [Array.getElem?_setIfInBounds_ne (by omega)]
        · subst hio
          rw [Array.getElem?_setIfInBounds_self_of_lt ho, hz]
      rw [e]
      exact H1.out
    case round =>
      obtain ⟨k, l, b2, v, rfl, hk, hl, hP, hO, hD, hTT⟩ := hrel
      rcases Nat.lt_or_ge k n with hlt | hge
      · have hlt' : (k : Int) < (n : Int) := by omega
        have H2 := Lib.hid (hP.fresh 108 #[.string ⟨#[]⟩, .string ⟨#[]⟩, .int .i64 0] hoz)
        have HP := Lib.hid (And.intro hP (And.intro hO (And.intro hD (And.intro hTT hl))))
        clear hP hO hD hTT
        go_wp2_with fail
        refine (require_rd H2.out 0 (by simp)).mono ?_
        rintro e w2 ⟨rfl, st2, cs2, hR2, tk2, F2, one2, T2, S2⟩
        have H3 := Lib.hid (H2.out.next hR2 tk2 one2 T2)
        obtain ⟨lg3, hf3⟩ := H3.out.fld
        have c3 := hf3.cell 1
        have CB := Lib.hid (bad_st hR2)
        have hwl := HP.out.2.2.2.1.size
        have htl := HP.out.1.tk.lt
        have hTw : PTouch p (some t) w w2 := ((HP.out.2.2.2.1).trans (PTouch.of_below (p := p) (r := some t) (below_al wr (.cells #[.string ⟨#[]⟩, .string ⟨#[]⟩, .int .i64 0] 108))) (.inl rfl)).trans T2 (.inr ⟨wr.heap.size, rfl, hwl⟩)
        have hkt : Bk w2 t ty (cs.setIfInBounds o v) := T2.bk (HP.out.1.tk.alloc _) H0.out.tp (by simp; omega)
        cases st2 with
        | none =>
          have HF := Lib.hid (show RPost p r t ty o 1 st cs w (dRows dReq) (fun w' cs' l => ∃ v, cs'[o]? = some v ∧ w'.ownsRow w.heap.size 108 3 v l.length (l.flatMap Req.cells)) (.returned (.tuple #[])) w2 from by
            refine ⟨rfl, none, cs.setIfInBounds o v, hR2, hkt, Fr.set _ _ _, HP.out.1.one, hTw, fun _ e => (by cases e), fun _ bs e => ?_⟩
            obtain ⟨bs', x, g1, g2, g3⟩ := HS1.out.1 b1 rfl
            rw [e] at g1
            injection g1 with g1
            subst g1 g3
            unfold dRows
            simp only [Dec.then, g2]
            exact dRow_fail k _ b1 b2 l hlt HP.out.2.2.1 (S2.2 rfl b2 rfl))
          clear hR2 tk2 F2 T2 S2 hf3 hTw hkt
          go_wp2_with fail
          refine CB.out.mono ?_
          rintro e wz ⟨rfl, rfl⟩
          go_wp2_with fail
          exact bodyPost_ret (results_none rfl _ _ _) rfl HF.out
        | some b3 =>
          obtain ⟨bs', x, g1, g2, hx⟩ := S2.1 b3 rfl
          injection g1 with g1
          subst g1
          obtain rfl := cells_rReq (x := x) (by have := F2.size; simpa using this) (by simpa using hx)
          have HX := Lib.hid g2
          have own2 : w2.ownsRow w.heap.size 108 3 v k (l.flatMap Req.cells) := own_keep HP.out.2.1 fun g hg => by
            have h1 := (HP.out.2.1.lt g hg)
            have h2 := H0.out.rs.lt
            rw [T2.heap g (by rw [World.size_alloc]; omega) (by omega) (by simp; omega)]
            exact Below.heap_alloc wr _ g h1.2
          obtain ⟨g8, hg8⟩ : ∃ g8, g8 = wr.heap.size := ⟨_, rfl⟩
          rw [← hg8] at tk2 T2 ⊢
          have hg8w : w.heap.size ≤ g8 := by rw [hg8]; exact hwl
          have hg8l : g8 < w2.heap.size := tk2.lt
          have hvg8 : ∀ g, v.ownBlock = some g → g ≠ g8 := fun g hg => by have := (HP.out.2.1.lt g hg).2; omega
          clear hg8
          have HB := Lib.hid (And.intro hR2 (And.intro hkt (And.intro hTw tk2)))
          have hkv : (cs.setIfInBounds o v)[o]? = some v := Array.getElem?_setIfInBounds_self_of_lt ho
          have HO := Lib.hid own2
          have hown : ∀ g, v.ownBlock = some g → w.heap.size ≤ g ∧ g < w2.heap.size := fun g hg => own2.lt g hg
          clear hR2 hTw T2 S2 hf3 own2 g2 hx F2 hkt tk2
          go_wp2_with fail
          refine CB.out.mono ?_
          rintro e wz ⟨rfl, rfl⟩
          go_wp2_with fail
          have y0 := HB.out.2.1.cell o
          rw [hkv] at y0
          have x0 := HB.out.2.2.2.cell 0
          have x1 := HB.out.2.2.2.cell 1
          have x2 := HB.out.2.2.2.cell 2
          have htw := H0.out.tk.lt
          have hpw := H0.out.rs.lt
          refine wp_region_reads 5 2 (fun w' => w'.cell? ⟨t, o, none⟩ = some v ∧ w'.cell? ⟨g8, 0, none⟩ = some (.string x.key) ∧ w'.cell? ⟨g8, 1, none⟩ = some (.string x.value) ∧ w'.cell? ⟨g8, 2, none⟩ = some (.int .i64 x.op)) (by kernel_rfl) (by kernel_rfl) (fun c a d v w h => by cases d <;> exact h) ⟨y0, x0, x1, x2⟩ ?_
          simp only [List.take_succ_cons, List.take_zero, List.drop_succ_cons, List.drop_zero]
          iterate 5
            refine reads_step (v := ?_) (by rfl) (fun w' hS => ?_) ?_
            rotate_left
            · have u0 := hS.1
              have u1 := hS.2.1
              have u2 := hS.2.2.1
              have u3 := hS.2.2.2
              clear hS
              go_simp
              with_reducible rfl
            simp only [Act.put, List.setIfInBounds_toArray, List.set_cons_zero, List.set_cons_succ]
          refine reads_nil ?_
          refine early_step rfl (by rfl) ?_
          have s0 : ∀ o', (w2.alloc o').cell? ⟨t, o, none⟩ = some v := fun o' => (HB.out.2.1.alloc o').cell o |>.trans hkv
          have s1 : ∀ o', (w2.alloc o').cell? ⟨g8, 0, none⟩ = some (.string x.key) := fun o' => (HB.out.2.2.2.alloc o').cell 0
          have s2 : ∀ o', (w2.alloc o').cell? ⟨g8, 1, none⟩ = some (.string x.value) := fun o' => (HB.out.2.2.2.alloc o').cell 1
          have s3 : ∀ o', (w2.alloc o').cell? ⟨g8, 2, none⟩ = some (.int .i64 x.op) := fun o' => (HB.out.2.2.2.alloc o').cell 2
          go_simp
          refine early_step rfl (by rfl) ?_
          refine wp_append_lies _ (.tmp 73) (.tmp 75) 31 rfl w.heap.size 108 ti _ 3 40 Try.underlying31 HI.out.1 HI.out.2.1 HI.out.2.2.1 HI.out.2.2.2 rfl (by omega) v k (l.flatMap Req.cells) rfl ((HO.out.alloc _).drew) ⟨w2.heap.size, 0, none⟩ 1 1 [.string x.key, .string x.value, .int .i64 x.op] rfl rfl (World.news_of_block (cs := #[.string x.key, .string x.value, .int .i64 x.op]) (t := 108) (fr := (0, 0)) (heap_alloc_new w2 _)) (by simp [Value.oneCell']) (by omega) (by unfold maxLen; omega) (by omega) (by simp; omega) (w2.heap.size + 1) (by simp) ?_
          intro g cap w3 hown3 hg3 hat hlt3
          have hnv : ∀ b, b < w.heap.size → some b ≠ v.ownBlock := fun b hb e => by have := (hown b e.symm).1; omega
          have B23 : ∀ b, b < w2.heap.size → some b ≠ v.ownBlock → w3.heap[b]? = w2.heap[b]? := fun b h1 h2 => (hg3.block b (by simp; omega) h2).trans (Below.heap_alloc w2 _ b h1)
          have S23 : w2.heap.size ≤ w3.heap.size := by have := hg3.size; simp at this; omega
          have kt3 : Bk w3 t ty (cs.setIfInBounds o v) := (B23 t HB.out.2.1.lt (hnv t htw)).trans HB.out.2.1
          have k83 : Bk w3 g8 108 #[.string x.key, .string x.value, .int .i64 x.op] := (B23 g8 hg8l (fun e => hvg8 _ e.symm rfl)).trans HB.out.2.2.2
          refine ⟨⟨(kt3.cell o).trans hkv, k83.cell 0, k83.cell 1, k83.cell 2⟩, ?_⟩
          simp only [wpEarly]
          simp only [Act.put, List.setIfInBounds_toArray, List.set_cons_zero, List.set_cons_succ]
          have z0 := (kt3.cell o).trans hkv
          have fz := kt3.frozen o
          have hgt : g ≠ t := fun e => by
            rcases hat with h | h
            · have := (hown g h).1; omega
            · omega
          have HF := Lib.hid (show ∃ v', v' = .slice (some ⟨g, 0, none⟩) (k + 1) cap ∧ RPre (w3.setCell ⟨t, o, none⟩ v') p r fb t ty (cs.setIfInBounds o v') (some b3) ∧ (w3.setCell ⟨t, o, none⟩ v').ownsRow w.heap.size 108 3 v' (k + 1) ((l ++ [x]).flatMap Req.cells) ∧ dRow dReq (k + 1) b1 = some (l ++ [x], b3) ∧ PTouch p (some t) w (w3.setCell ⟨t, o, none⟩ v') from by
            refine ⟨_, rfl, ⟨?_, ?_, ?_, H0.out.one.set o rfl, H0.out.tp, H0.out.tr, H0.out.ft, H0.out.fp⟩, ?_, dRow_snoc k b1 b2 b3 l x HP.out.2.2.1 HX.out, ?_⟩
            · refine rs_set (HB.out.1.keep S23 (B23 p HB.out.1.lt (hnv p hpw)) fun k' hk' => B23 k' (HB.out.1.rlt k' hk') (hnv k' (H0.out.rs.rlt k' hk'))) H0.out.tp H0.out.tr _ _
            · obtain ⟨lg', hf'⟩ := H3.out.fld
              obtain ⟨lg0, hf0⟩ := H0.out.fld
              exact ⟨lg', Bk.far ((B23 fb hf'.lt (hnv fb hf0.lt)).trans hf') (by simpa using H0.out.ft) _⟩
            · have := kt3.set o (.slice (some ⟨g, 0, none⟩) (k + 1) cap)
              rwa [Array.setIfInBounds_setIfInBounds] at this
            · have h5 := own_keep (w' := w3.setCell ⟨t, o, none⟩ (.slice (some ⟨g, 0, none⟩) (k + 1) cap)) hown3 (fun g' hg' => Below.heap_setCell _ _ _ _ (by
                have : g = g' := by simpa [Value.ownBlock] using hg'
                simp; omega))
              rw [List.flatMap_append]
              exact h5
            · refine PTouch.setT (a := ⟨t, o, none⟩) ?_ rfl _
              have hA : PTouch p (some t) w (w2.alloc (.cells #[.string x.key, .string x.value, .int .i64 x.op] 108)).drew := HB.out.2.2.1.trans (PTouch.of_below (p := p) (r := some t) ((below_al w2 (.cells #[.string x.key, .string x.value, .int .i64 x.op] 108)).drew)) (.inl rfl)
              cases hvb : v.ownBlock with
              | none => exact hA.trans (PTouch.of_below (p := p) (r := some t) ⟨hg3.os, hg3.tape, hg3.output, hg3.size, fun b hb => hg3.block b hb (by rw [hvb]; simp)⟩) (.inl rfl)
              | some g' => exact hA.grown hg3 (.inr ⟨g', hvb, (hown g' hvb).1⟩))
          clear kt3 k83 hown3 hg3 S23 B23 hnv s0 s1 s2 s3 y0 hkv htw hpw hat hgt
          go_wp2_with fail
          obtain ⟨v', rfl, f1, f2, f3, f4⟩ := HF.out
          exact ⟨⟨k + 1, l ++ [x], b3, _, by go_num, by omega, by simp [HP.out.2.2.2.2], f1, f2, f3, f4⟩, by simp [intOf]; omega⟩
      · have he : k = n := by omega
        subst he
        have HF := Lib.hid (show RPost p r t ty o 1 st cs w (dRows dReq) (fun w' cs' l => ∃ v, cs'[o]? = some v ∧ w'.ownsRow w.heap.size 108 3 v l.length (l.flatMap Req.cells)) (.returned (.tuple #[])) wr from by
          refine ⟨rfl, some b2, cs.setIfInBounds o v, hP.rs, hP.tk, Fr.set _ _ _, hP.one, hTT, fun rest e => ?_, fun e => (by cases e)⟩
          injection e with e
          subst e
          obtain ⟨bs, x, g1, g2, g3⟩ := HS1.out.1 b1 rfl
          subst g3
          refine ⟨bs, l, g1, ?_, v, Array.getElem?_setIfInBounds_self_of_lt ho, by rw [hl]; exact hO⟩
          unfold dRows
          simp only [Dec.then, g2]
          exact hD)
        clear hP hO hD hTT
        go_wp2_with fail
        exact bodyPost_end (results_none rfl _ _ _) rfl HF.out
theorem info_rMet : (Try.prog.info? 81).map (fun i => (i.zero, i.size, i.bytes)) = some (some (.agg #[.int .i64 0, .string ⟨#[]⟩, .int .i64 0]), 3, 32) := by kernel_rfl
theorem cells_rMet {cs : Array Value} {x : Mem.Met} (hs : cs.size = 3) (hx : cs[0]? = some (.int .i64 x.kind) ∧ cs[1]? = some (.string x.name) ∧ cs[2]? = some (.int .i64 x.target)) : cs = #[.int .i64 x.kind, .string x.name, .int .i64 x.target] := by
  apply Array.ext_getElem?
  intro i
  rcases i with _ | _ | _ | i
  · rw [hx.1]; rfl
  · rw [hx.2.1]; rfl
  · rw [hx.2.2]; rfl
  · rw [Array.getElem?_eq_none (by omega), Array.getElem?_eq_none (by simp)]
set_option maxHeartbeats 4000000 in
set_option maxRecDepth 100000 in
theorem rowMet_rd {w : World} {p : Nat} {r : Option Nat} {fb t : Nat} {ty : TypeId} {cs : Array Value} {st : Option (List UInt8)} (h : RPre w p r fb t ty cs st) (o : Nat) (ho : o < cs.size) (hz : cs[o]? = some (.slice none 0 0)) :
    Calls Try.prog 52 #[.pointer (some ⟨fb, 0, none⟩), .pointer (some ⟨t, o, none⟩), .func (.func 53) #[] #[]] w (RPost p r t ty o 1 st cs w (dRows dMet) (fun w' cs' l => ∃ v, cs'[o]? = some v ∧ w'.ownsRow w.heap.size 81 3 v l.length (l.flatMap Mem.Met.cells))) := by
  obtain ⟨lg, hf⟩ := h.fld
  have c1 := hf.cell 1
  have C := Lib.hid (get_st 1 (.inl rfl) h.rs)
  have H0 := Lib.hid h
  obtain ⟨ti, hi0, hz0, hz1, hz2⟩ := info_parts info_rMet
  have HI := Lib.hid (And.intro hi0 (And.intro hz0 (And.intro hz1 hz2)))
  have hoz : One #[.int .i64 0, .string ⟨#[]⟩, .int .i64 0] := by
    intro v hv
    simp at hv
    rcases hv with rfl | rfl | rfl <;> rfl
  clear h hf hi0 hz0 hz1 hz2
  go_enter Try.func52, Try.ntmps52
  go_wp2_with fail
  refine C.out.mono ?_
  rintro e w1 ⟨n, st1, rfl, hR1, hT1, hS1⟩
  have H1 := Lib.hid (H0.out.next hR1 (hT1.bk H0.out.tk H0.out.tp (by simp)) H0.out.one hT1.weak)
  clear c1
  cases st1 with
  | none =>
    have HN := Lib.hid (show ∀ w', PTouch p (some t) w w' → (∃ cs', RS w' p r none ∧ Bk w' t ty cs' ∧ Fr cs cs' o 1 ∧ One cs') → RPost p r t ty o 1 st cs w (dRows dMet) (fun w' cs' l => ∃ v, cs'[o]? = some v ∧ w'.ownsRow w.heap.size 81 3 v l.length (l.flatMap Mem.Met.cells)) (.returned (.tuple #[])) w' from by
      rintro w' hT ⟨cs', a1, a2, a3, a4⟩
      refine ⟨rfl, none, cs', a1, a2, a3, a4, hT, fun _ e => (by cases e), fun _ bs e => ?_⟩
      unfold dRows
      simp only [Dec.then, hS1.2 rfl bs e])
    have HT := Lib.hid hT1
    clear hR1 hT1 hS1
    go_wp2_with fail
    go_loopw [60] (fun i wr => i = .int .u64 0 ∧ wr = w1) (fun i wr => 0)
    case atStart => exact ⟨rfl, rfl⟩
    case round =>
      obtain ⟨rfl, rfl⟩ := hrel
      rcases Nat.eq_zero_or_pos n with h0 | h0
      · subst h0
        have HF := HN.out wr HT.out.weak ⟨cs, H1.out.rs, H1.out.tk, Fr.refl _ _ _, H1.out.one⟩
        have HFF := Lib.hid HF
        clear HF
        go_wp2_with fail
        exact bodyPost_end (results_none rfl _ _ _) rfl HFF.out
      · have h0' : (0 : Int) < (n : Int) := by omega
        have H2 := Lib.hid (H1.out.fresh 81 #[.int .i64 0, .string ⟨#[]⟩, .int .i64 0] hoz)
        go_wp2_with fail
        refine (metric_rd H2.out 0 (by simp)).mono ?_
        rintro e w2 ⟨rfl, st2, cs2, hR2, tk2, F2, one2, T2, S2⟩
        have hst : st2 = none := by
          cases st2 with
          | none => rfl
          | some rest => obtain ⟨bs, x, h, _⟩ := S2.1 rest rfl; cases h
        subst hst
        have H3 := H2.out.next hR2 tk2 one2 T2
        obtain ⟨lg3, hf3⟩ := H3.fld
        have c3 := hf3.cell 1
        have CB := Lib.hid (bad_st hR2)
        have HF := Lib.hid (HN.out w2 (((HT.out.weak).trans (PTouch.of_below (p := p) (r := some t) (below_al wr (.cells #[.int .i64 0, .string ⟨#[]⟩, .int .i64 0] 81))) (.inl rfl)).trans T2 (.inr ⟨wr.heap.size, rfl, HT.out.size⟩)) ⟨cs, hR2, (T2.bk (H1.out.tk.alloc _) H0.out.tp (by have := H1.out.tk.lt; simp; omega)), Fr.refl _ _ _, H1.out.one⟩)
        clear hR2 tk2 F2 T2 S2 hf3 H3
        go_wp2_with fail
        refine CB.out.mono ?_
        rintro e wz ⟨rfl, rfl⟩
        go_wp2_with fail
        exact bodyPost_ret (results_none rfl _ _ _) rfl HF.out
  | some b1 =>
    have hn : n ≤ 255 := by
      obtain ⟨bs, x, g1, g2, g3⟩ := hS1.1 b1 rfl
      have := ((codec_num 1).just _ _ _ g2).1
      omega
    have HS1 := Lib.hid hS1
    have HT := Lib.hid hT1
    have hnn : (n : Int) ≤ 255 := by omega
    clear hR1 hT1 hS1
    go_wp2_with fail
    go_loopw [60] (fun i wr => ∃ (k : Nat) (l : List Mem.Met) (b2 : List UInt8) (v : Value), i = .int .u64 k ∧ k ≤ n ∧ l.length = k ∧ RPre wr p r fb t ty (cs.setIfInBounds o v) (some b2) ∧ wr.ownsRow w.heap.size 81 3 v k (l.flatMap Mem.Met.cells) ∧ dRow dMet k b1 = some (l, b2) ∧ PTouch p (some t) w wr) (fun i wr => n - (intOf i).toNat)
    case atStart =>
      refine ⟨0, [], b1, .slice none 0 0, rfl, by omega, rfl, ?_, World.ownsRow_nil .., rfl, HT.out.weak⟩
      have e : cs.setIfInBounds o (.slice none 0 0) = cs := by
        apply Array.ext_getElem?
        intro i
        rcases Nat.decEq i o with hio | hio
        · rw [Array.getElem?_setIfInBounds_ne (by omega)]
        · subst hio
          rw [Array.getElem?_setIfInBounds_self_of_lt ho, hz]
      rw [e]
      exact H1.out
    case round =>
      obtain ⟨k, l, b2, v, rfl, hk, hl, hP, hO, hD, hTT⟩ := hrel
      rcases Nat.lt_or_ge k n with hlt | hge
      · have hlt' : (k : Int) < (n : Int) := by omega
        have H2 := Lib.hid (hP.fresh 81 #[.int .i64 0, .string ⟨#[]⟩, .int .i64 0] hoz)
        have HP := Lib.hid (And.intro hP (And.intro hO (And.intro hD (And.intro hTT hl))))
        clear hP hO hD hTT
        go_wp2_with fail
        refine (metric_rd H2.out 0 (by simp)).mono ?_
        rintro e w2 ⟨rfl, st2, cs2, hR2, tk2, F2, one2, T2, S2⟩
        have H3 := Lib.hid (H2.out.next hR2 tk2 one2 T2)
        obtain ⟨lg3, hf3⟩ := H3.out.fld
        have c3 := hf3.cell 1
        have CB := Lib.hid (bad_st hR2)
        have hwl := HP.out.2.2.2.1.size
        have htl := HP.out.1.tk.lt
        have hTw : PTouch p (some t) w w2 := ((HP.out.2.2.2.1).trans (PTouch.of_below (p := p) (r := some t) (below_al wr (.cells #[.int .i64 0, .string ⟨#[]⟩, .int .i64 0] 81))) (.inl rfl)).trans T2 (.inr ⟨wr.heap.size, rfl, hwl⟩)
        have hkt : Bk w2 t ty (cs.setIfInBounds o v) := T2.bk (HP.out.1.tk.alloc _) H0.out.tp (by simp; omega)
        cases st2 with
        | none =>
          have HF := Lib.hid (show RPost p r t ty o 1 st cs w (dRows dMet) (fun w' cs' l => ∃ v, cs'[o]? = some v ∧ w'.ownsRow w.heap.size 81 3 v l.length (l.flatMap Mem.Met.cells)) (.returned (.tuple #[])) w2 from by
            refine ⟨rfl, none, cs.setIfInBounds o v, hR2, hkt, Fr.set _ _ _, HP.out.1.one, hTw, fun _ e => (by cases e), fun _ bs e => ?_⟩
            obtain ⟨bs', x, g1, g2, g3⟩ := HS1.out.1 b1 rfl
            rw [e] at g1
            injection g1 with g1
            subst g1 g3
            unfold dRows
            simp only [Dec.then, g2]
            exact dRow_fail k _ b1 b2 l hlt HP.out.2.2.1 (S2.2 rfl b2 rfl))
          clear hR2 tk2 F2 T2 S2 hf3 hTw hkt
          go_wp2_with fail
          refine CB.out.mono ?_
          rintro e wz ⟨rfl, rfl⟩
          go_wp2_with fail
          exact bodyPost_ret (results_none rfl _ _ _) rfl HF.out
        | some b3 =>
          obtain ⟨bs', x, g1, g2, hx⟩ := S2.1 b3 rfl
          injection g1 with g1
          subst g1
          obtain rfl := cells_rMet (x := x) (by have := F2.size; simpa using this) (by simpa using hx)
          have HX := Lib.hid g2
          have own2 : w2.ownsRow w.heap.size 81 3 v k (l.flatMap Mem.Met.cells) := own_keep HP.out.2.1 fun g hg => by
            have h1 := (HP.out.2.1.lt g hg)
            have h2 := H0.out.rs.lt
            rw [T2.heap g (by rw [World.size_alloc]; omega) (by omega) (by simp; omega)]
            exact Below.heap_alloc wr _ g h1.2
          obtain ⟨g8, hg8⟩ : ∃ g8, g8 = wr.heap.size := ⟨_, rfl⟩
          rw [← hg8] at tk2 T2 ⊢
          have hg8w : w.heap.size ≤ g8 := by rw [hg8]; exact hwl
          have hg8l : g8 < w2.heap.size := tk2.lt
          have hvg8 : ∀ g, v.ownBlock = some g → g ≠ g8 := fun g hg => by have := (HP.out.2.1.lt g hg).2; omega
          clear hg8
          have HB := Lib.hid (And.intro hR2 (And.intro hkt (And.intro hTw tk2)))
          have hkv : (cs.setIfInBounds o v)[o]? = some v := Array.getElem?_setIfInBounds_self_of_lt ho
          have HO := Lib.hid own2
          have hown : ∀ g, v.ownBlock = some g → w.heap.size ≤ g ∧ g < w2.heap.size := fun g hg => own2.lt g hg
          clear hR2 hTw T2 S2 hf3 own2 g2 hx F2 hkt tk2
          go_wp2_with fail
          refine CB.out.mono ?_
          rintro e wz ⟨rfl, rfl⟩
          go_wp2_with fail
          have y0 := HB.out.2.1.cell o
          rw [hkv] at y0
          have x0 := HB.out.2.2.2.cell 0
          have x1 := HB.out.2.2.2.cell 1
          have x2 := HB.out.2.2.2.cell 2
          have htw := H0.out.tk.lt
          have hpw := H0.out.rs.lt
          refine wp_region_reads 5 2 (fun w' => w'.cell? ⟨t, o, none⟩ = some v ∧ w'.cell? ⟨g8, 0, none⟩ = some (.int .i64 x.kind) ∧ w'.cell? ⟨g8, 1, none⟩ = some (.string x.name) ∧ w'.cell? ⟨g8, 2, none⟩ = some (.int .i64 x.target)) (by kernel_rfl) (by kernel_rfl) (fun c a d v w h => by cases d <;> exact h) ⟨y0, x0, x1, x2⟩ ?_
          simp only [List.take_succ_cons, List.take_zero, List.drop_succ_cons, List.drop_zero]
          iterate 5
            refine reads_step (v := ?_) (by rfl) (fun w' hS => ?_) ?_
            rotate_left
            · have u0 := hS.1
              have u1 := hS.2.1
              have u2 := hS.2.2.1
              have u3 := hS.2.2.2
              clear hS
              go_simp
              with_reducible rfl
            simp only [Act.put, List.setIfInBounds_toArray, List.set_cons_zero, List.set_cons_succ]
          refine reads_nil ?_
          refine early_step rfl (by rfl) ?_
          have s0 : ∀ o', (w2.alloc o').cell? ⟨t, o, none⟩ = some v := fun o' => (HB.out.2.1.alloc o').cell o |>.trans hkv
          have s1 : ∀ o', (w2.alloc o').cell? ⟨g8, 0, none⟩ = some (.int .i64 x.kind) := fun o' => (HB.out.2.2.2.alloc o').cell 0
          have s2 : ∀ o', (w2.alloc o').cell? ⟨g8, 1, none⟩ = some (.string x.name) := fun o' => (HB.out.2.2.2.alloc o').cell 1
          have s3 : ∀ o', (w2.alloc o').cell? ⟨g8, 2, none⟩ = some (.int .i64 x.target) := fun o' => (HB.out.2.2.2.alloc o').cell 2
          go_simp
          refine early_step rfl (by rfl) ?_
          refine wp_append_lies _ (.tmp 73) (.tmp 75) 40 rfl w.heap.size 81 ti _ 3 32 Try.underlying40 HI.out.1 HI.out.2.1 HI.out.2.2.1 HI.out.2.2.2 rfl (by omega) v k (l.flatMap Mem.Met.cells) rfl ((HO.out.alloc _).drew) ⟨w2.heap.size, 0, none⟩ 1 1 [.int .i64 x.kind, .string x.name, .int .i64 x.target] rfl rfl (World.news_of_block (cs := #[.int .i64 x.kind, .string x.name, .int .i64 x.target]) (t := 81) (fr := (0, 0)) (heap_alloc_new w2 _)) (by simp [Value.oneCell']) (by omega) (by unfold maxLen; omega) (by omega) (by simp; omega) (w2.heap.size + 1) (by simp) ?_
          intro g cap w3 hown3 hg3 hat hlt3
          have hnv : ∀ b, b < w.heap.size → some b ≠ v.ownBlock := fun b hb e => by have := (hown b e.symm).1; omega
          have B23 : ∀ b, b < w2.heap.size → some b ≠ v.ownBlock → w3.heap[b]? = w2.heap[b]? := fun b h1 h2 => (hg3.block b (by simp; omega) h2).trans (Below.heap_alloc w2 _ b h1)
          have S23 : w2.heap.size ≤ w3.heap.size := by have := hg3.size; simp at this; omega
          have kt3 : Bk w3 t ty (cs.setIfInBounds o v) := (B23 t HB.out.2.1.lt (hnv t htw)).trans HB.out.2.1
          have k83 : Bk w3 g8 81 #[.int .i64 x.kind, .string x.name, .int .i64 x.target] := (B23 g8 hg8l (fun e => hvg8 _ e.symm rfl)).trans HB.out.2.2.2
          refine ⟨⟨(kt3.cell o).trans hkv, k83.cell 0, k83.cell 1, k83.cell 2⟩, ?_⟩
          simp only [wpEarly]
          simp only [Act.put, List.setIfInBounds_toArray, List.set_cons_zero, List.set_cons_succ]
          have z0 := (kt3.cell o).trans hkv
          have fz := kt3.frozen o
          have hgt : g ≠ t := fun e => by
            rcases hat with h | h
            · have := (hown g h).1; omega
            · omega
          have HF := Lib.hid (show ∃ v', v' = .slice (some ⟨g, 0, none⟩) (k + 1) cap ∧ RPre (w3.setCell ⟨t, o, none⟩ v') p r fb t ty (cs.setIfInBounds o v') (some b3) ∧ (w3.setCell ⟨t, o, none⟩ v').ownsRow w.heap.size 81 3 v' (k + 1) ((l ++ [x]).flatMap Mem.Met.cells) ∧ dRow dMet (k + 1) b1 = some (l ++ [x], b3) ∧ PTouch p (some t) w (w3.setCell ⟨t, o, none⟩ v') from by
            refine ⟨_, rfl, ⟨?_, ?_, ?_, H0.out.one.set o rfl, H0.out.tp, H0.out.tr, H0.out.ft, H0.out.fp⟩, ?_, dRow_snoc k b1 b2 b3 l x HP.out.2.2.1 HX.out, ?_⟩
            · refine rs_set (HB.out.1.keep S23 (B23 p HB.out.1.lt (hnv p hpw)) fun k' hk' => B23 k' (HB.out.1.rlt k' hk') (hnv k' (H0.out.rs.rlt k' hk'))) H0.out.tp H0.out.tr _ _
            · obtain ⟨lg', hf'⟩ := H3.out.fld
              obtain ⟨lg0, hf0⟩ := H0.out.fld
              exact ⟨lg', Bk.far ((B23 fb hf'.lt (hnv fb hf0.lt)).trans hf') (by simpa using H0.out.ft) _⟩
            · have := kt3.set o (.slice (some ⟨g, 0, none⟩) (k + 1) cap)
              rwa [Array.setIfInBounds_setIfInBounds] at this
            · have h5 := own_keep (w' := w3.setCell ⟨t, o, none⟩ (.slice (some ⟨g, 0, none⟩) (k + 1) cap)) hown3 (fun g' hg' => Below.heap_setCell _ _ _ _ (by
                have : g = g' := by simpa [Value.ownBlock] using hg'
                simp; omega))
              rw [List.flatMap_append]
              exact h5
            · refine PTouch.setT (a := ⟨t, o, none⟩) ?_ rfl _
              have hA : PTouch p (some t) w (w2.alloc (.cells #[.int .i64 x.kind, .string x.name, .int .i64 x.target] 81)).drew := HB.out.2.2.1.trans (PTouch.of_below (p := p) (r := some t) ((below_al w2 (.cells #[.int .i64 x.kind, .string x.name, .int .i64 x.target] 81)).drew)) (.inl rfl)
              cases hvb : v.ownBlock with
              | none => exact hA.trans (PTouch.of_below (p := p) (r := some t) ⟨hg3.os, hg3.tape, hg3.output, hg3.size, fun b hb => hg3.block b hb (by rw [hvb]; simp)⟩) (.inl rfl)
              | some g' => exact hA.grown hg3 (.inr ⟨g', hvb, (hown g' hvb).1⟩))
          clear kt3 k83 hown3 hg3 S23 B23 hnv s0 s1 s2 s3 y0 hkv htw hpw hat hgt
          go_wp2_with fail
          obtain ⟨v', rfl, f1, f2, f3, f4⟩ := HF.out
          exact ⟨⟨k + 1, l ++ [x], b3, _, by go_num, by omega, by simp [HP.out.2.2.2.2], f1, f2, f3, f4⟩, by simp [intOf]; omega⟩
      · have he : k = n := by omega
        subst he
        have HF := Lib.hid (show RPost p r t ty o 1 st cs w (dRows dMet) (fun w' cs' l => ∃ v, cs'[o]? = some v ∧ w'.ownsRow w.heap.size 81 3 v l.length (l.flatMap Mem.Met.cells)) (.returned (.tuple #[])) wr from by
          refine ⟨rfl, some b2, cs.setIfInBounds o v, hP.rs, hP.tk, Fr.set _ _ _, hP.one, hTT, fun rest e => ?_, fun e => (by cases e)⟩
          injection e with e
          subst e
          obtain ⟨bs, x, g1, g2, g3⟩ := HS1.out.1 b1 rfl
          subst g3
          refine ⟨bs, l, g1, ?_, v, Array.getElem?_setIfInBounds_self_of_lt ho, by rw [hl]; exact hO⟩
          unfold dRows
          simp only [Dec.then, g2]
          exact hD)
        clear hP hO hD hTT
        go_wp2_with fail
        exact bodyPost_end (results_none rfl _ _ _) rfl HF.out
theorem info_rPol : (Try.prog.info? 110).map (fun i => (i.zero, i.size, i.bytes)) = some (some (.agg #[.bool false, .int .i64 0, .int .i64 0]), 3, 24) := by kernel_rfl
theorem cells_rPol {cs : Array Value} {x : Pol} (hs : cs.size = 3) (hx : cs[0]? = some (.bool x.pct) ∧ cs[1]? = some (.int .i64 x.value) ∧ cs[2]? = some (.int .i64 x.period)) : cs = #[.bool x.pct, .int .i64 x.value, .int .i64 x.period] := by
  apply Array.ext_getElem?
  intro i
  rcases i with _ | _ | _ | i
  · rw [hx.1]; rfl
  · rw [hx.2.1]; rfl
  · rw [hx.2.2]; rfl
  · rw [Array.getElem?_eq_none (by omega), Array.getElem?_eq_none (by simp)]
set_option maxHeartbeats 4000000 in
set_option maxRecDepth 100000 in
theorem rowPol_rd {w : World} {p : Nat} {r : Option Nat} {fb t : Nat} {ty : TypeId} {cs : Array Value} {st : Option (List UInt8)} (h : RPre w p r fb t ty cs st) (o : Nat) (ho : o < cs.size) (hz : cs[o]? = some (.slice none 0 0)) :
    Calls Try.prog 61 #[.pointer (some ⟨fb, 0, none⟩), .pointer (some ⟨t, o, none⟩), .func (.func 62) #[] #[]] w (RPost p r t ty o 1 st cs w (dRows dPol) (fun w' cs' l => ∃ v, cs'[o]? = some v ∧ w'.ownsRow w.heap.size 110 3 v l.length (l.flatMap Pol.cells))) := by
  obtain ⟨lg, hf⟩ := h.fld
  have c1 := hf.cell 1
  have C := Lib.hid (get_st 1 (.inl rfl) h.rs)
  have H0 := Lib.hid h
  obtain ⟨ti, hi0, hz0, hz1, hz2⟩ := info_parts info_rPol
  have HI := Lib.hid (And.intro hi0 (And.intro hz0 (And.intro hz1 hz2)))
  have hoz : One #[.bool false, .int .i64 0, .int .i64 0] := by
    intro v hv
    simp at hv
    rcases hv with rfl | rfl | rfl <;> rfl
  clear h hf hi0 hz0 hz1 hz2
  go_enter Try.func61, Try.ntmps61
  go_wp2_with fail
  refine C.out.mono ?_
  rintro e w1 ⟨n, st1, rfl, hR1, hT1, hS1⟩
  have H1 := Lib.hid (H0.out.next hR1 (hT1.bk H0.out.tk H0.out.tp (by simp)) H0.out.one hT1.weak)
  clear c1
  cases st1 with
  | none =>
    have HN := Lib.hid (show ∀ w', PTouch p (some t) w w' → (∃ cs', RS w' p r none ∧ Bk w' t ty cs' ∧ Fr cs cs' o 1 ∧ One cs') → RPost p r t ty o 1 st cs w (dRows dPol) (fun w' cs' l => ∃ v, cs'[o]? = some v ∧ w'.ownsRow w.heap.size 110 3 v l.length (l.flatMap Pol.cells)) (.returned (.tuple #[])) w' from by
      rintro w' hT ⟨cs', a1, a2, a3, a4⟩
      refine ⟨rfl, none, cs', a1, a2, a3, a4, hT, fun _ e => (by cases e), fun _ bs e => ?_⟩
      unfold dRows
      simp only [Dec.then, hS1.2 rfl bs e])
    have HT := Lib.hid hT1
    clear hR1 hT1 hS1
    go_wp2_with fail
    go_loopw [60] (fun i wr => i = .int .u64 0 ∧ wr = w1) (fun i wr => 0)
    case atStart => exact ⟨rfl, rfl⟩
    case round =>
      obtain ⟨rfl, rfl⟩ := hrel
      rcases Nat.eq_zero_or_pos n with h0 | h0
      · subst h0
        have HF := HN.out wr HT.out.weak ⟨cs, H1.out.rs, H1.out.tk, Fr.refl _ _ _, H1.out.one⟩
        have HFF := Lib.hid HF
        clear HF
        go_wp2_with fail
        exact bodyPost_end (results_none rfl _ _ _) rfl HFF.out
      · have h0' : (0 : Int) < (n : Int) := by omega
        have H2 := Lib.hid (H1.out.fresh 110 #[.bool false, .int .i64 0, .int .i64 0] hoz)
        go_wp2_with fail
        refine (policy_rd H2.out 0 (by simp)).mono ?_
        rintro e w2 ⟨rfl, st2, cs2, hR2, tk2, F2, one2, T2, S2⟩
        have hst : st2 = none := by
          cases st2 with
          | none => rfl
          | some rest => obtain ⟨bs, x, h, _⟩ := S2.1 rest rfl; cases h
        subst hst
        have H3 := H2.out.next hR2 tk2 one2 T2
        obtain ⟨lg3, hf3⟩ := H3.fld
        have c3 := hf3.cell 1
        have CB := Lib.hid (bad_st hR2)
        have HF := Lib.hid (HN.out w2 (((HT.out.weak).trans (PTouch.of_below (p := p) (r := some t) (below_al wr (.cells #[.bool false, .int .i64 0, .int .i64 0] 110))) (.inl rfl)).trans T2 (.inr ⟨wr.heap.size, rfl, HT.out.size⟩)) ⟨cs, hR2, (T2.bk (H1.out.tk.alloc _) H0.out.tp (by have := H1.out.tk.lt; simp; omega)), Fr.refl _ _ _, H1.out.one⟩)
        clear hR2 tk2 F2 T2 S2 hf3 H3
        go_wp2_with fail
        refine CB.out.mono ?_
        rintro e wz ⟨rfl, rfl⟩
        go_wp2_with fail
        exact bodyPost_ret (results_none rfl _ _ _) rfl HF.out
  | some b1 =>
    have hn : n ≤ 255 := by
      obtain ⟨bs, x, g1, g2, g3⟩ := hS1.1 b1 rfl
      have := ((codec_num 1).just _ _ _ g2).1
      omega
    have HS1 := Lib.hid hS1
    have HT := Lib.hid hT1
    have hnn : (n : Int) ≤ 255 := by omega
    clear hR1 hT1 hS1
    go_wp2_with fail
    go_loopw [60] (fun i wr => ∃ (k : Nat) (l : List Pol) (b2 : List UInt8) (v : Value), i = .int .u64 k ∧ k ≤ n ∧ l.length = k ∧ RPre wr p r fb t ty (cs.setIfInBounds o v) (some b2) ∧ wr.ownsRow w.heap.size 110 3 v k (l.flatMap Pol.cells) ∧ dRow dPol k b1 = some (l, b2) ∧ PTouch p (some t) w wr) (fun i wr => n - (intOf i).toNat)
    case atStart =>
      refine ⟨0, [], b1, .slice none 0 0, rfl, by omega, rfl, ?_, World.ownsRow_nil .., rfl, HT.out.weak⟩
      have e : cs.setIfInBounds o (.slice none 0 0) = cs := by
        apply Array.ext_getElem?
        intro i
        rcases Nat.decEq i o with hio | hio
        · rw [Array.getElem?_setIfInBounds_ne (by omega)]
        · subst hio
          rw [Array.getElem?_setIfInBounds_self_of_lt ho, hz]
      rw [e]
      exact H1.out
    case round =>
      obtain ⟨k, l, b2, v, rfl, hk, hl, hP, hO, hD, hTT⟩ := hrel
      rcases Nat.lt_or_ge k n with hlt | hge
      · have hlt' : (k : Int) < (n : Int) := by omega
        have H2 := Lib.hid (hP.fresh 110 #[.bool false, .int .i64 0, .int .i64 0] hoz)
        have HP := Lib.hid (And.intro hP (And.intro hO (And.intro hD (And.intro hTT hl))))
        clear hP hO hD hTT
        go_wp2_with fail
        refine (policy_rd H2.out 0 (by simp)).mono ?_
        rintro e w2 ⟨rfl, st2, cs2, hR2, tk2, F2, one2, T2, S2⟩
        have H3 := Lib.hid (H2.out.next hR2 tk2 one2 T2)
        obtain ⟨lg3, hf3⟩ := H3.out.fld
        have c3 := hf3.cell 1
        have CB := Lib.hid (bad_st hR2)
        have hwl := HP.out.2.2.2.1.size
        have htl := HP.out.1.tk.lt
        have hTw : PTouch p (some t) w w2 := ((HP.out.2.2.2.1).trans (PTouch.of_below (p := p) (r := some t) (below_al wr (.cells #[.bool false, .int .i64 0, .int .i64 0] 110))) (.inl rfl)).trans T2 (.inr ⟨wr.heap.size, rfl, hwl⟩)
        have hkt : Bk w2 t ty (cs.setIfInBounds o v) := T2.bk (HP.out.1.tk.alloc _) H0.out.tp (by simp; omega)
        cases st2 with
        | none =>
          have HF := Lib.hid (show RPost p r t ty o 1 st cs w (dRows dPol) (fun w' cs' l => ∃ v, cs'[o]? = some v ∧ w'.ownsRow w.heap.size 110 3 v l.length (l.flatMap Pol.cells)) (.returned (.tuple #[])) w2 from by
            refine ⟨rfl, none, cs.setIfInBounds o v, hR2, hkt, Fr.set _ _ _, HP.out.1.one, hTw, fun _ e => (by cases e), fun _ bs e => ?_⟩
            obtain ⟨bs', x, g1, g2, g3⟩ := HS1.out.1 b1 rfl
            rw [e] at g1
            injection g1 with g1
            subst g1 g3
            unfold dRows
            simp only [Dec.then, g2]
            exact dRow_fail k _ b1 b2 l hlt HP.out.2.2.1 (S2.2 rfl b2 rfl))
          clear hR2 tk2 F2 T2 S2 hf3 hTw hkt
          go_wp2_with fail
          refine CB.out.mono ?_
          rintro e wz ⟨rfl, rfl⟩
          go_wp2_with fail
          exact bodyPost_ret (results_none rfl _ _ _) rfl HF.out
        | some b3 =>
          obtain ⟨bs', x, g1, g2, hx⟩ := S2.1 b3 rfl
          injection g1 with g1
          subst g1
          obtain rfl := cells_rPol (x := x) (by have := F2.size; simpa using this) (by simpa using hx)
          have HX := Lib.hid g2
          have own2 : w2.ownsRow w.heap.size 110 3 v k (l.flatMap Pol.cells) := own_keep HP.out.2.1 fun g hg => by
            have h1 := (HP.out.2.1.lt g hg)
            have h2 := H0.out.rs.lt
            rw [T2.heap g (by rw [World.size_alloc]; omega) (by omega) (by simp; omega)]
            exact Below.heap_alloc wr _ g h1.2
          obtain ⟨g8, hg8⟩ : ∃ g8, g8 = wr.heap.size := ⟨_, rfl⟩
          rw [← hg8] at tk2 T2 ⊢
          have hg8w : w.heap.size ≤ g8 := by rw [hg8]; exact hwl
          have hg8l : g8 < w2.heap.size := tk2.lt
          have hvg8 : ∀ g, v.ownBlock = some g → g ≠ g8 := fun g hg => by have := (HP.out.2.1.lt g hg).2; omega
          clear hg8
          have HB := Lib.hid (And.intro hR2 (And.intro hkt (And.intro hTw tk2)))
          have hkv : (cs.setIfInBounds o v)[o]? = some v := Array.getElem?_setIfInBounds_self_of_lt ho
          have HO := Lib.hid own2
          have hown : ∀ g, v.ownBlock = some g → w.heap.size ≤ g ∧ g < w2.heap.size := fun g hg => own2.lt g hg
          clear hR2 hTw T2 S2 hf3 own2 g2 hx F2 hkt tk2
          go_wp2_with fail
          refine CB.out.mono ?_
          rintro e wz ⟨rfl, rfl⟩
          go_wp2_with fail
          have y0 := HB.out.2.1.cell o
          rw [hkv] at y0
          have x0 := HB.out.2.2.2.cell 0
          have x1 := HB.out.2.2.2.cell 1
          have x2 := HB.out.2.2.2.cell 2
          have htw := H0.out.tk.lt
          have hpw := H0.out.rs.lt
          refine wp_region_reads 5 2 (fun w' => w'.cell? ⟨t, o, none⟩ = some v ∧ w'.cell? ⟨g8, 0, none⟩ = some (.bool x.pct) ∧ w'.cell? ⟨g8, 1, none⟩ = some (.int .i64 x.value) ∧ w'.cell? ⟨g8, 2, none⟩ = some (.int .i64 x.period)) (by kernel_rfl) (by kernel_rfl) (fun c a d v w h => by cases d <;> exact h) ⟨y0, x0, x1, x2⟩ ?_
          simp only [List.take_succ_cons, List.take_zero, List.drop_succ_cons, List.drop_zero]
          iterate 5
            refine reads_step (v := ?_) (by rfl) (fun w' hS => ?_) ?_
            rotate_left
            · have u0 := hS.1
              have u1 := hS.2.1
              have u2 := hS.2.2.1
              have u3 := hS.2.2.2
              clear hS
              go_simp
              with_reducible rfl
            simp only [Act.put, List.setIfInBounds_toArray, List.set_cons_zero, List.set_cons_succ]
          refine reads_nil ?_
          refine early_step rfl (by rfl) ?_
          have s0 : ∀ o', (w2.alloc o').cell? ⟨t, o, none⟩ = some v := fun o' => (HB.out.2.1.alloc o').cell o |>.trans hkv
          have s1 : ∀ o', (w2.alloc o').cell? ⟨g8, 0, none⟩ = some (.bool x.pct) := fun o' => (HB.out.2.2.2.alloc o').cell 0
          have s2 : ∀ o', (w2.alloc o').cell? ⟨g8, 1, none⟩ = some (.int .i64 x.value) := fun o' => (HB.out.2.2.2.alloc o').cell 1
          have s3 : ∀ o', (w2.alloc o').cell? ⟨g8, 2, none⟩ = some (.int .i64 x.period) := fun o' => (HB.out.2.2.2.alloc o').cell 2
          go_simp
          refine early_step rfl (by rfl) ?_
          refine wp_append_lies _ (.tmp 73) (.tmp 75) 41 rfl w.heap.size 110 ti _ 3 24 Try.underlying41 HI.out.1 HI.out.2.1 HI.out.2.2.1 HI.out.2.2.2 rfl (by omega) v k (l.flatMap Pol.cells) rfl ((HO.out.alloc _).drew) ⟨w2.heap.size, 0, none⟩ 1 1 [.bool x.pct, .int .i64 x.value, .int .i64 x.period] rfl rfl (World.news_of_block (cs := #[.bool x.pct, .int .i64 x.value, .int .i64 x.period]) (t := 110) (fr := (0, 0)) (heap_alloc_new w2 _)) (by simp [Value.oneCell']) (by omega) (by unfold maxLen; omega) (by omega) (by simp; omega) (w2.heap.size + 1) (by simp) ?_
          intro g cap w3 hown3 hg3 hat hlt3
          have hnv : ∀ b, b < w.heap.size → some b ≠ v.ownBlock := fun b hb e => by have := (hown b e.symm).1; omega
          have B23 : ∀ b, b < w2.heap.size → some b ≠ v.ownBlock → w3.heap[b]? = w2.heap[b]? := fun b h1 h2 => (hg3.block b (by simp; omega) h2).trans (Below.heap_alloc w2 _ b h1)
          have S23 : w2.heap.size ≤ w3.heap.size := by have := hg3.size; simp at this; omega
          have kt3 : Bk w3 t ty (cs.setIfInBounds o v) := (B23 t HB.out.2.1.lt (hnv t htw)).trans HB.out.2.1
          have k83 : Bk w3 g8 110 #[.bool x.pct, .int .i64 x.value, .int .i64 x.period] := (B23 g8 hg8l (fun e => hvg8 _ e.symm rfl)).trans HB.out.2.2.2
          refine ⟨⟨(kt3.cell o).trans hkv, k83.cell 0, k83.cell 1, k83.cell 2⟩, ?_⟩
          simp only [wpEarly]
          simp only [Act.put, List.setIfInBounds_toArray, List.set_cons_zero, List.set_cons_succ]
          have z0 := (kt3.cell o).trans hkv
          have fz := kt3.frozen o
          have hgt : g ≠ t := fun e => by
            rcases hat with h | h
            · have := (hown g h).1; omega
            · omega
          have HF := Lib.hid (show ∃ v', v' = .slice (some ⟨g, 0, none⟩) (k + 1) cap ∧ RPre (w3.setCell ⟨t, o, none⟩ v') p r fb t ty (cs.setIfInBounds o v') (some b3) ∧ (w3.setCell ⟨t, o, none⟩ v').ownsRow w.heap.size 110 3 v' (k + 1) ((l ++ [x]).flatMap Pol.cells) ∧ dRow dPol (k + 1) b1 = some (l ++ [x], b3) ∧ PTouch p (some t) w (w3.setCell ⟨t, o, none⟩ v') from by
            refine ⟨_, rfl, ⟨?_, ?_, ?_, H0.out.one.set o rfl, H0.out.tp, H0.out.tr, H0.out.ft, H0.out.fp⟩, ?_, dRow_snoc k b1 b2 b3 l x HP.out.2.2.1 HX.out, ?_⟩
            · refine rs_set (HB.out.1.keep S23 (B23 p HB.out.1.lt (hnv p hpw)) fun k' hk' => B23 k' (HB.out.1.rlt k' hk') (hnv k' (H0.out.rs.rlt k' hk'))) H0.out.tp H0.out.tr _ _
            · obtain ⟨lg', hf'⟩ := H3.out.fld
              obtain ⟨lg0, hf0⟩ := H0.out.fld
              exact ⟨lg', Bk.far ((B23 fb hf'.lt (hnv fb hf0.lt)).trans hf') (by simpa using H0.out.ft) _⟩
            · have := kt3.set o (.slice (some ⟨g, 0, none⟩) (k + 1) cap)
              rwa [Array.setIfInBounds_setIfInBounds] at this
            · have h5 := own_keep (w' := w3.setCell ⟨t, o, none⟩ (.slice (some ⟨g, 0, none⟩) (k + 1) cap)) hown3 (fun g' hg' => Below.heap_setCell _ _ _ _ (by
                have : g = g' := by simpa [Value.ownBlock] using hg'
                simp; omega))
              rw [List.flatMap_append]
              exact h5
            · refine PTouch.setT (a := ⟨t, o, none⟩) ?_ rfl _
              have hA : PTouch p (some t) w (w2.alloc (.cells #[.bool x.pct, .int .i64 x.value, .int .i64 x.period] 110)).drew := HB.out.2.2.1.trans (PTouch.of_below (p := p) (r := some t) ((below_al w2 (.cells #[.bool x.pct, .int .i64 x.value, .int .i64 x.period] 110)).drew)) (.inl rfl)
              cases hvb : v.ownBlock with
              | none => exact hA.trans (PTouch.of_below (p := p) (r := some t) ⟨hg3.os, hg3.tape, hg3.output, hg3.size, fun b hb => hg3.block b hb (by rw [hvb]; simp)⟩) (.inl rfl)
              | some g' => exact hA.grown hg3 (.inr ⟨g', hvb, (hown g' hvb).1⟩))
          clear kt3 k83 hown3 hg3 S23 B23 hnv s0 s1 s2 s3 y0 hkv htw hpw hat hgt
          go_wp2_with fail
          obtain ⟨v', rfl, f1, f2, f3, f4⟩ := HF.out
          exact ⟨⟨k + 1, l ++ [x], b3, _, by go_num, by omega, by simp [HP.out.2.2.2.2], f1, f2, f3, f4⟩, by simp [intOf]; omega⟩
      · have he : k = n := by omega
        subst he
        have HF := Lib.hid (show RPost p r t ty o 1 st cs w (dRows dPol) (fun w' cs' l => ∃ v, cs'[o]? = some v ∧ w'.ownsRow w.heap.size 110 3 v l.length (l.flatMap Pol.cells)) (.returned (.tuple #[])) wr from by
          refine ⟨rfl, some b2, cs.setIfInBounds o v, hP.rs, hP.tk, Fr.set _ _ _, hP.one, hTT, fun rest e => ?_, fun e => (by cases e)⟩
          injection e with e
          subst e
          obtain ⟨bs, x, g1, g2, g3⟩ := HS1.out.1 b1 rfl
          subst g3
          refine ⟨bs, l, g1, ?_, v, Array.getElem?_setIfInBounds_self_of_lt ho, by rw [hl]; exact hO⟩
          unfold dRows
          simp only [Dec.then, g2]
          exact hD)
        clear hP hO hD hTT
        go_wp2_with fail
        exact bodyPost_end (results_none rfl _ _ _) rfl HF.out
theorem info_rDone : (Try.prog.info? 91).map (fun i => (i.zero, i.size, i.bytes)) = some (some (.agg #[.int .i64 0, .int .i64 0, .int .i64 0]), 3, 24) := by kernel_rfl
theorem cells_rDone {cs : Array Value} {x : Done} (hs : cs.size = 3) (hx : cs[0]? = some (.int .i64 x.at') ∧ cs[1]? = some (.int .i64 x.from') ∧ cs[2]? = some (.int .i64 x.to')) : cs = #[.int .i64 x.at', .int .i64 x.from', .int .i64 x.to'] := by
  apply Array.ext_getElem?
  intro i
  rcases i with _ | _ | _ | i
  · rw [hx.1]; rfl
  · rw [hx.2.1]; rfl
  · rw [hx.2.2]; rfl
  · rw [Array.getElem?_eq_none (by omega), Array.getElem?_eq_none (by simp)]
set_option maxHeartbeats 4000000 in
set_option maxRecDepth 100000 in
theorem rowDone_rd {w : World} {p : Nat} {r : Option Nat} {fb t : Nat} {ty : TypeId} {cs : Array Value} {st : Option (List UInt8)} (h : RPre w p r fb t ty cs st) (o : Nat) (ho : o < cs.size) (hz : cs[o]? = some (.slice none 0 0)) :
    Calls Try.prog 55 #[.pointer (some ⟨fb, 0, none⟩), .pointer (some ⟨t, o, none⟩), .func (.func 56) #[] #[]] w (RPost p r t ty o 1 st cs w (dRows dDone) (fun w' cs' l => ∃ v, cs'[o]? = some v ∧ w'.ownsRow w.heap.size 91 3 v l.length (l.flatMap Done.cells))) := by
  obtain ⟨lg, hf⟩ := h.fld
  have c1 := hf.cell 1
  have C := Lib.hid (get_st 1 (.inl rfl) h.rs)
  have H0 := Lib.hid h
  obtain ⟨ti, hi0, hz0, hz1, hz2⟩ := info_parts info_rDone
  have HI := Lib.hid (And.intro hi0 (And.intro hz0 (And.intro hz1 hz2)))
  have hoz : One #[.int .i64 0, .int .i64 0, .int .i64 0] := by
    intro v hv
    simp at hv
    rcases hv with rfl | rfl | rfl <;> rfl
  clear h hf hi0 hz0 hz1 hz2
  go_enter Try.func55, Try.ntmps55
  go_wp2_with fail
  refine C.out.mono ?_
  rintro e w1 ⟨n, st1, rfl, hR1, hT1, hS1⟩
  have H1 := Lib.hid (H0.out.next hR1 (hT1.bk H0.out.tk H0.out.tp (by simp)) H0.out.one hT1.weak)
  clear c1
  cases st1 with
  | none =>
    have HN := Lib.hid (show ∀ w', PTouch p (some t) w w' → (∃ cs', RS w' p r none ∧ Bk w' t ty cs' ∧ Fr cs cs' o 1 ∧ One cs') → RPost p r t ty o 1 st cs w (dRows dDone) (fun w' cs' l => ∃ v, cs'[o]? = some v ∧ w'.ownsRow w.heap.size 91 3 v l.length (l.flatMap Done.cells)) (.returned (.tuple #[])) w' from by
      rintro w' hT ⟨cs', a1, a2, a3, a4⟩
      refine ⟨rfl, none, cs', a1, a2, a3, a4, hT, fun _ e => (by cases e), fun _ bs e => ?_⟩
      unfold dRows
      simp only [Dec.then, hS1.2 rfl bs e])
    have HT := Lib.hid hT1
    clear hR1 hT1 hS1
    go_wp2_with fail
    go_loopw [60] (fun i wr => i = .int .u64 0 ∧ wr = w1) (fun i wr => 0)
    case atStart => exact ⟨rfl, rfl⟩
    case round =>
      obtain ⟨rfl, rfl⟩ := hrel
      rcases Nat.eq_zero_or_pos n with h0 | h0
      · subst h0
        have HF := HN.out wr HT.out.weak ⟨cs, H1.out.rs, H1.out.tk, Fr.refl _ _ _, H1.out.one⟩
        have HFF := Lib.hid HF
        clear HF
        go_wp2_with fail
        exact bodyPost_end (results_none rfl _ _ _) rfl HFF.out
      · have h0' : (0 : Int) < (n : Int) := by omega
        have H2 := Lib.hid (H1.out.fresh 91 #[.int .i64 0, .int .i64 0, .int .i64 0] hoz)
        go_wp2_with fail
        refine (scaled_rd H2.out 0 (by simp)).mono ?_
        rintro e w2 ⟨rfl, st2, cs2, hR2, tk2, F2, one2, T2, S2⟩
        have hst : st2 = none := by
          cases st2 with
          | none => rfl
          | some rest => obtain ⟨bs, x, h, _⟩ := S2.1 rest rfl; cases h
        subst hst
        have H3 := H2.out.next hR2 tk2 one2 T2
        obtain ⟨lg3, hf3⟩ := H3.fld
        have c3 := hf3.cell 1
        have CB := Lib.hid (bad_st hR2)
        have HF := Lib.hid (HN.out w2 (((HT.out.weak).trans (PTouch.of_below (p := p) (r := some t) (below_al wr (.cells #[.int .i64 0, .int .i64 0, .int .i64 0] 91))) (.inl rfl)).trans T2 (.inr ⟨wr.heap.size, rfl, HT.out.size⟩)) ⟨cs, hR2, (T2.bk (H1.out.tk.alloc _) H0.out.tp (by have := H1.out.tk.lt; simp; omega)), Fr.refl _ _ _, H1.out.one⟩)
        clear hR2 tk2 F2 T2 S2 hf3 H3
        go_wp2_with fail
        refine CB.out.mono ?_
        rintro e wz ⟨rfl, rfl⟩
        go_wp2_with fail
        exact bodyPost_ret (results_none rfl _ _ _) rfl HF.out
  | some b1 =>
    have hn : n ≤ 255 := by
      obtain ⟨bs, x, g1, g2, g3⟩ := hS1.1 b1 rfl
      have := ((codec_num 1).just _ _ _ g2).1
      omega
    have HS1 := Lib.hid hS1
    have HT := Lib.hid hT1
    have hnn : (n : Int) ≤ 255 := by omega
    clear hR1 hT1 hS1
    go_wp2_with fail
    go_loopw [60] (fun i wr => ∃ (k : Nat) (l : List Done) (b2 : List UInt8) (v : Value), i = .int .u64 k ∧ k ≤ n ∧ l.length = k ∧ RPre wr p r fb t ty (cs.setIfInBounds o v) (some b2) ∧ wr.ownsRow w.heap.size 91 3 v k (l.flatMap Done.cells) ∧ dRow dDone k b1 = some (l, b2) ∧ PTouch p (some t) w wr) (fun i wr => n - (intOf i).toNat)
    case atStart =>
      refine ⟨0, [], b1, .slice none 0 0, rfl, by omega, rfl, ?_, World.ownsRow_nil .., rfl, HT.out.weak⟩
      have e : cs.setIfInBounds o (.slice none 0 0) = cs := by
        apply Array.ext_getElem?
        intro i
        rcases Nat.decEq i o with hio | hio
        · rw [Array.getElem?_setIfInBounds_ne (by omega)]
        · subst hio
          rw [Array.getElem?_setIfInBounds_self_of_lt ho, hz]
      rw [e]
      exact H1.out
    case round =>
      obtain ⟨k, l, b2, v, rfl, hk, hl, hP, hO, hD, hTT⟩ := hrel
      rcases Nat.lt_or_ge k n with hlt | hge
      · have hlt' : (k : Int) < (n : Int) := by omega
        have H2 := Lib.hid (hP.fresh 91 #[.int .i64 0, .int .i64 0, .int .i64 0] hoz)
        have HP := Lib.hid (And.intro hP (And.intro hO (And.intro hD (And.intro hTT hl))))
        clear hP hO hD hTT
        go_wp2_with fail
        refine (scaled_rd H2.out 0 (by simp)).mono ?_
        rintro e w2 ⟨rfl, st2, cs2, hR2, tk2, F2, one2, T2, S2⟩
        have H3 := Lib.hid (H2.out.next hR2 tk2 one2 T2)
        obtain ⟨lg3, hf3⟩ := H3.out.fld
        have c3 := hf3.cell 1
        have CB := Lib.hid (bad_st hR2)
        have hwl := HP.out.2.2.2.1.size
        have htl := HP.out.1.tk.lt
        have hTw : PTouch p (some t) w w2 := ((HP.out.2.2.2.1).trans (PTouch.of_below (p := p) (r := some t) (below_al wr (.cells #[.int .i64 0, .int .i64 0, .int .i64 0] 91))) (.inl rfl)).trans T2 (.inr ⟨wr.heap.size, rfl, hwl⟩)
        have hkt : Bk w2 t ty (cs.setIfInBounds o v) := T2.bk (HP.out.1.tk.alloc _) H0.out.tp (by simp; omega)
        cases st2 with
        | none =>
          have HF := Lib.hid (show RPost p r t ty o 1 st cs w (dRows dDone) (fun w' cs' l => ∃ v, cs'[o]? = some v ∧ w'.ownsRow w.heap.size 91 3 v l.length (l.flatMap Done.cells)) (.returned (.tuple #[])) w2 from by
            refine ⟨rfl, none, cs.setIfInBounds o v, hR2, hkt, Fr.set _ _ _, HP.out.1.one, hTw, fun _ e => (by cases e), fun _ bs e => ?_⟩
            obtain ⟨bs', x, g1, g2, g3⟩ := HS1.out.1 b1 rfl
            rw [e] at g1
            injection g1 with g1
            subst g1 g3
            unfold dRows
            simp only [Dec.then, g2]
            exact dRow_fail k _ b1 b2 l hlt HP.out.2.2.1 (S2.2 rfl b2 rfl))
          clear hR2 tk2 F2 T2 S2 hf3 hTw hkt
          go_wp2_with fail
          refine CB.out.mono ?_
          rintro e wz ⟨rfl, rfl⟩
          go_wp2_with fail
          exact bodyPost_ret (results_none rfl _ _ _) rfl HF.out
        | some b3 =>
          obtain ⟨bs', x, g1, g2, hx⟩ := S2.1 b3 rfl
          injection g1 with g1
          subst g1
          obtain rfl := cells_rDone (x := x) (by have := F2.size; simpa using this) (by simpa using hx)
          have HX := Lib.hid g2
          have own2 : w2.ownsRow w.heap.size 91 3 v k (l.flatMap Done.cells) := own_keep HP.out.2.1 fun g hg => by
            have h1 := (HP.out.2.1.lt g hg)
            have h2 := H0.out.rs.lt
            rw [T2.heap g (by rw [World.size_alloc]; omega) (by omega) (by simp; omega)]
            exact Below.heap_alloc wr _ g h1.2
          obtain ⟨g8, hg8⟩ : ∃ g8, g8 = wr.heap.size := ⟨_, rfl⟩
          rw [← hg8] at tk2 T2 ⊢
          have hg8w : w.heap.size ≤ g8 := by rw [hg8]; exact hwl
          have hg8l : g8 < w2.heap.size := tk2.lt
          have hvg8 : ∀ g, v.ownBlock = some g → g ≠ g8 := fun g hg => by have := (HP.out.2.1.lt g hg).2; omega
          clear hg8
          have HB := Lib.hid (And.intro hR2 (And.intro hkt (And.intro hTw tk2)))
          have hkv : (cs.setIfInBounds o v)[o]? = some v := Array.getElem?_setIfInBounds_self_of_lt ho
          have HO := Lib.hid own2
          have hown : ∀ g, v.ownBlock = some g → w.heap.size ≤ g ∧ g < w2.heap.size := fun g hg => own2.lt g hg
          clear hR2 hTw T2 S2 hf3 own2 g2 hx F2 hkt tk2
          go_wp2_with fail
          refine CB.out.mono ?_
          rintro e wz ⟨rfl, rfl⟩
          go_wp2_with fail
          have y0 := HB.out.2.1.cell o
          rw [hkv] at y0
          have x0 := HB.out.2.2.2.cell 0
          have x1 := HB.out.2.2.2.cell 1
          have x2 := HB.out.2.2.2.cell 2
          have htw := H0.out.tk.lt
          have hpw := H0.out.rs.lt
          refine wp_region_reads 5 2 (fun w' => w'.cell? ⟨t, o, none⟩ = some v ∧ w'.cell? ⟨g8, 0, none⟩ = some (.int .i64 x.at') ∧ w'.cell? ⟨g8, 1, none⟩ = some (.int .i64 x.from') ∧ w'.cell? ⟨g8, 2, none⟩ = some (.int .i64 x.to')) (by kernel_rfl) (by kernel_rfl) (fun c a d v w h => by cases d <;> exact h) ⟨y0, x0, x1, x2⟩ ?_
          simp only [List.take_succ_cons, List.take_zero, List.drop_succ_cons, List.drop_zero]
          iterate 5
            refine reads_step (v := ?_) (by rfl) (fun w' hS => ?_) ?_
            rotate_left
            · have u0 := hS.1
              have u1 := hS.2.1
              have u2 := hS.2.2.1
              have u3 := hS.2.2.2
              clear hS
              go_simp
              with_reducible rfl
            simp only [Act.put, List.setIfInBounds_toArray, List.set_cons_zero, List.set_cons_succ]
          refine reads_nil ?_
          refine early_step rfl (by rfl) ?_
          have s0 : ∀ o', (w2.alloc o').cell? ⟨t, o, none⟩ = some v := fun o' => (HB.out.2.1.alloc o').cell o |>.trans hkv
          have s1 : ∀ o', (w2.alloc o').cell? ⟨g8, 0, none⟩ = some (.int .i64 x.at') := fun o' => (HB.out.2.2.2.alloc o').cell 0
          have s2 : ∀ o', (w2.alloc o').cell? ⟨g8, 1, none⟩ = some (.int .i64 x.from') := fun o' => (HB.out.2.2.2.alloc o').cell 1
          have s3 : ∀ o', (w2.alloc o').cell? ⟨g8, 2, none⟩ = some (.int .i64 x.to') := fun o' => (HB.out.2.2.2.alloc o').cell 2
          go_simp
          refine early_step rfl (by rfl) ?_
          refine wp_append_lies _ (.tmp 73) (.tmp 75) 44 rfl w.heap.size 91 ti _ 3 24 Try.underlying44 HI.out.1 HI.out.2.1 HI.out.2.2.1 HI.out.2.2.2 rfl (by omega) v k (l.flatMap Done.cells) rfl ((HO.out.alloc _).drew) ⟨w2.heap.size, 0, none⟩ 1 1 [.int .i64 x.at', .int .i64 x.from', .int .i64 x.to'] rfl rfl (World.news_of_block (cs := #[.int .i64 x.at', .int .i64 x.from', .int .i64 x.to']) (t := 91) (fr := (0, 0)) (heap_alloc_new w2 _)) (by simp [Value.oneCell']) (by omega) (by unfold maxLen; omega) (by omega) (by simp; omega) (w2.heap.size + 1) (by simp) ?_
          intro g cap w3 hown3 hg3 hat hlt3
          have hnv : ∀ b, b < w.heap.size → some b ≠ v.ownBlock := fun b hb e => by have := (hown b e.symm).1; omega
          have B23 : ∀ b, b < w2.heap.size → some b ≠ v.ownBlock → w3.heap[b]? = w2.heap[b]? := fun b h1 h2 => (hg3.block b (by simp; omega) h2).trans (Below.heap_alloc w2 _ b h1)
          have S23 : w2.heap.size ≤ w3.heap.size := by have := hg3.size; simp at this; omega
          have kt3 : Bk w3 t ty (cs.setIfInBounds o v) := (B23 t HB.out.2.1.lt (hnv t htw)).trans HB.out.2.1
          have k83 : Bk w3 g8 91 #[.int .i64 x.at', .int .i64 x.from', .int .i64 x.to'] := (B23 g8 hg8l (fun e => hvg8 _ e.symm rfl)).trans HB.out.2.2.2
          refine ⟨⟨(kt3.cell o).trans hkv, k83.cell 0, k83.cell 1, k83.cell 2⟩, ?_⟩
          simp only [wpEarly]
          simp only [Act.put, List.setIfInBounds_toArray, List.set_cons_zero, List.set_cons_succ]
          have z0 := (kt3.cell o).trans hkv
          have fz := kt3.frozen o
          have hgt : g ≠ t := fun e => by
            rcases hat with h | h
            · have := (hown g h).1; omega
            · omega
          have HF := Lib.hid (show ∃ v', v' = .slice (some ⟨g, 0, none⟩) (k + 1) cap ∧ RPre (w3.setCell ⟨t, o, none⟩ v') p r fb t ty (cs.setIfInBounds o v') (some b3) ∧ (w3.setCell ⟨t, o, none⟩ v').ownsRow w.heap.size 91 3 v' (k + 1) ((l ++ [x]).flatMap Done.cells) ∧ dRow dDone (k + 1) b1 = some (l ++ [x], b3) ∧ PTouch p (some t) w (w3.setCell ⟨t, o, none⟩ v') from by
            refine ⟨_, rfl, ⟨?_, ?_, ?_, H0.out.one.set o rfl, H0.out.tp, H0.out.tr, H0.out.ft, H0.out.fp⟩, ?_, dRow_snoc k b1 b2 b3 l x HP.out.2.2.1 HX.out, ?_⟩
            · refine rs_set (HB.out.1.keep S23 (B23 p HB.out.1.lt (hnv p hpw)) fun k' hk' => B23 k' (HB.out.1.rlt k' hk') (hnv k' (H0.out.rs.rlt k' hk'))) H0.out.tp H0.out.tr _ _
            · obtain ⟨lg', hf'⟩ := H3.out.fld
              obtain ⟨lg0, hf0⟩ := H0.out.fld
              exact ⟨lg', Bk.far ((B23 fb hf'.lt (hnv fb hf0.lt)).trans hf') (by simpa using H0.out.ft) _⟩
            · have := kt3.set o (.slice (some ⟨g, 0, none⟩) (k + 1) cap)
              rwa [Array.setIfInBounds_setIfInBounds] at this
            · have h5 := own_keep (w' := w3.setCell ⟨t, o, none⟩ (.slice (some ⟨g, 0, none⟩) (k + 1) cap)) hown3 (fun g' hg' => Below.heap_setCell _ _ _ _ (by
                have : g = g' := by simpa [Value.ownBlock] using hg'
                simp; omega))
              rw [List.flatMap_append]
              exact h5
            · refine PTouch.setT (a := ⟨t, o, none⟩) ?_ rfl _
              have hA : PTouch p (some t) w (w2.alloc (.cells #[.int .i64 x.at', .int .i64 x.from', .int .i64 x.to'] 91)).drew := HB.out.2.2.1.trans (PTouch.of_below (p := p) (r := some t) ((below_al w2 (.cells #[.int .i64 x.at', .int .i64 x.from', .int .i64 x.to'] 91)).drew)) (.inl rfl)
              cases hvb : v.ownBlock with
              | none => exact hA.trans (PTouch.of_below (p := p) (r := some t) ⟨hg3.os, hg3.tape, hg3.output, hg3.size, fun b hb => hg3.block b hb (by rw [hvb]; simp)⟩) (.inl rfl)
              | some g' => exact hA.grown hg3 (.inr ⟨g', hvb, (hown g' hvb).1⟩))
          clear kt3 k83 hown3 hg3 S23 B23 hnv s0 s1 s2 s3 y0 hkv htw hpw hat hgt
          go_wp2_with fail
          obtain ⟨v', rfl, f1, f2, f3, f4⟩ := HF.out
          exact ⟨⟨k + 1, l ++ [x], b3, _, by go_num, by omega, by simp [HP.out.2.2.2.2], f1, f2, f3, f4⟩, by simp [intOf]; omega⟩
      · have he : k = n := by omega
        subst he
        have HF := Lib.hid (show RPost p r t ty o 1 st cs w (dRows dDone) (fun w' cs' l => ∃ v, cs'[o]? = some v ∧ w'.ownsRow w.heap.size 91 3 v l.length (l.flatMap Done.cells)) (.returned (.tuple #[])) wr from by
          refine ⟨rfl, some b2, cs.setIfInBounds o v, hP.rs, hP.tk, Fr.set _ _ _, hP.one, hTT, fun rest e => ?_, fun e => (by cases e)⟩
          injection e with e
          subst e
          obtain ⟨bs, x, g1, g2, g3⟩ := HS1.out.1 b1 rfl
          subst g3
          refine ⟨bs, l, g1, ?_, v, Array.getElem?_setIfInBounds_self_of_lt ho, by rw [hl]; exact hO⟩
          unfold dRows
          simp only [Dec.then, g2]
          exact hD)
        clear hP hO hD hTT
        go_wp2_with fail
        exact bodyPost_end (results_none rfl _ _ _) rfl HF.out
end Go.Proofs.Ythdjfcfbmmmmcaa
