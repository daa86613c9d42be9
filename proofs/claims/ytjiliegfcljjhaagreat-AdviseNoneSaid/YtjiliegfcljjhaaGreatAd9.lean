/-
  The walk of the adviser's Look, at the law's one pod.
-/
import Derived.Test.YtjiliegfcljjhaaGreatAd8
import Derived.Test.YtjiliegfcljjhaaGreatAd5
import Derived.Great.BuildSlice
namespace Go.Proofs.YtjiliegfcljjhaaGreat
open Go.RowKit Go.Proofs.Mem
open Go.Maps (Keyed string_keyed)
set_option linter.unusedVariables false
set_option linter.unusedSimpArgs false
def sP : ByteArray := ⟨#[112]⟩
def sW : ByteArray := ⟨#[119]⟩
def sCpu : ByteArray := ⟨#[99, 112, 117]⟩
def sMem : ByteArray := ⟨#[109, 101, 109]⟩
theorem sP_nm : nmB sP = true := by decide +kernel
theorem sCpu_nm : nmB sCpu = true := by decide +kernel
/-- The law's pod. -/
def PdL : Array Value := #[.int .i64 1, .string sP, .int .u64 0, .int .i64 0, .int .i64 0, .int .i64 0, .slice none 0 0, .slice none 0 0, .slice none 0 0, .int .i64 0, .string sW, .string ⟨#[]⟩, .int .i64 2, .int .i64 0, .int .i64 0, .int .i64 0, .slice none 0 0, .slice none 0 0, .slice none 0 0, .int .i64 0, .string ⟨#[]⟩, .int .i64 0, .int .i64 0, .slice none 0 0, .slice none 0 0, .int .i64 0, .bool false, .int .i64 0, .int .i64 0, .int .i64 0, .int .i64 0, .int .i64 0, .slice none 0 0, .slice none 0 0, .int .i64 0, .string ⟨#[]⟩, .int .i64 0, .int .i64 0, .slice none 0 0, .int .i64 0, .int .i64 0, .int .i64 0, .slice none 0 0, .int .i64 0, .int .i64 0, .slice none 0 0, .slice none 0 0]
theorem pdl_is : Is47 PdL := ⟨rfl, rfl⟩
/-- The book's map behind the one sample. -/
def DBook (p : Nat) : DataW Value := (DataW.map []).put (kSr sP sCpu) (.held (.pointer (some ⟨p, 0, none⟩)))
theorem dbook_cpu (p : Nat) : valAt (DBook p) (kSr sP sCpu) (.pointer none) = .pointer (some ⟨p, 0, none⟩) := valAt_put_same ⟨[], rfl⟩ (by simp [kSr, WideAt.IsKeyLit]) _ _
theorem dbook_mem (p : Nat) : valAt (DBook p) (kSr sP sMem) (.pointer none) = .pointer none := by
  unfold DBook
  rw [valAt_put_other]
  · exact valAt_empty _ _
  · intro h
    have h1 : (kSr sP sMem).sameKey (kSr sP sCpu) = false := by decide +kernel
    have h2 : (kSr sP sCpu).sameKey (kSr sP sCpu) = true := by decide +kernel
    rw [h, h2] at h1
    cases h1
def DAd (c1 c2 : Nat) : DataW Value := (DataW.map []).put (kO sW) (.held (.agg #[.pointer (some ⟨c1 + 1, 0, none⟩), .pointer (some ⟨c2 + 1, 0, none⟩)]))
theorem dad_val (c1 c2 : Nat) (z : Value) : valAt (DAd c1 c2) (kO sW) z = .agg #[.pointer (some ⟨c1 + 1, 0, none⟩), .pointer (some ⟨c2 + 1, 0, none⟩)] := valAt_put_same ⟨[], rfl⟩ (by simp [kO, WideAt.IsKeyLit]) _ _
/-- Behind the look. -/
def LookPost (a b : Nat) (w w' : World) : Prop := ∃ c1 c2 q, AdIs w' a b 1 (DAd c1 c2) 1000 2000 9 9 150 1 1099511627776 ∧ Ch w' c1 1000 2000 9 9 ((List.replicate 9 0).set 0 1048576) q true ∧ Ch w' c2 1000 2000 9 9 (List.replicate 9 0) 0 false ∧ w.grownBy w' (some b)
theorem LookPost.below {a b : Nat} {w w1 w2 : World} (h : LookPost a b w w1) (hb : Below w1.heap.size w1 w2) : LookPost a b w w2 := by
  obtain ⟨c1, c2, q, h1, h2, h3, h4⟩ := h
  exact ⟨c1, c2, q, h1.below hb, h2.below hb, h3.below hb, ⟨hb.os.trans h4.os, hb.tape.trans h4.tape, hb.output.trans h4.output, Nat.le_trans h4.size hb.size, fun k hk hne => (hb.block k (Nat.lt_of_lt_of_le hk h4.size)).trans (h4.block k hk hne)⟩⟩
theorem first_zero {M : Nat} (hM : 1 ≤ M) {i : Nat} (h : FirstIs 2000 1000 M 100 i ∨ (i + 1 = M ∧ NoneIs 2000 1000 M 100)) : i = 0 := by
  rcases h with h | ⟨_, h⟩
  · rcases Nat.eq_zero_or_pos i with h0 | h0
    · exact h0
    · have := h.2.2 0 h0
      simp [ChartLaw.endAt] at this
  · have := h 0 hM
    simp [ChartLaw.endAt] at this
set_option maxHeartbeats 4000000 in
set_option maxRecDepth 100000 in
theorem look_one (w : World) (a b s bb p q f n gp : Nat) (zs : List (Int × Int)) (hA : AdIs w a b 0 (.map []) 1000 2000 9 9 150 1 1099511627776) (hB : BkIs w s bb 1 (DBook p) 2 9) (hR : RingI w p q zs f n) (hl : lst zs f n = [(1, 100)]) (hp : Bk w gp 57 PdL)
    (n1 : b ≠ s) (n2 : b ≠ bb) (n3 : b ≠ p) (n4 : b ≠ q) (n5 : b ≠ gp) :
    Calls Tryz.prog 11 #[.pointer (some ⟨a, 0, none⟩), .pointer (some ⟨s, 0, none⟩), .int .i64 1, .slice (some ⟨gp, 0, none⟩) 1 1] w fun e w' => e = .returned (.int .i64 1) ∧ LookPost a b w w' := by
  have HU := Lib.hid (Tryz.underlying57)
  obtain ⟨L, hLe⟩ : ∃ L, L = PdL := ⟨_, rfl⟩
  have hL : Is47 L := by rw [hLe]; exact pdl_is
  rw [← hLe] at hp
  have HL := Lib.hid (And.intro hL hLe)
  have hzz : Z47.size = L.size := hL.1.symm
  have HS := Lib.hid (And.intro hA (And.intro hB (And.intro hR hl)))
  clear hL hLe hA hB hR hl
  go_enter Tryz.func11, Tryz.ntmps11
  go_wp2_with fail
  go_loopw [9, 21] (fun c i wr => (i = .int .i64 0 ∧ c = .int .i64 0 ∧ wr = w) ∨ (i = .int .i64 1 ∧ c = .int .i64 1 ∧ LookPost a b w wr)) (fun c i wr => 1 - (intOf i).toNat)
  case atStart => exact .inl ⟨rfl, rfl, rfl⟩
  case round =>
    rcases hrel with ⟨rfl, rfl, rfl⟩ | ⟨rfl, rfl, hP⟩
    · rename World => w0
      have kz := Bk.new w0 57 Z47
      have ko := setCells_whole kz hzz
      have B0 := below_setCells (g := w0.heap.size) L.toList 0 (below_al w0 (.cells Z47 57)) (Nat.le_refl _)
      have l0 : L[0]? = some (.int .i64 1) := by rw [HL.out.2]; rfl
      have l1 : L[1]? = some (.string sP) := by rw [HL.out.2]; rfl
      have l10 : L[10]? = some (.string sW) := by rw [HL.out.2]; rfl
      have l12 : L[12]? = some (.int .i64 2) := by rw [HL.out.2]; rfl
      have o0 := ko.cell 0
      have o12 := ko.cell 12
      rw [l0] at o0
      rw [l12] at o12
      go_wp2_with (first | (refine wpl_loadg hp rfl 57 (.tmp 23) rfl rfl _ HU.out rfl (info47 HL.out.1) ?_) | (refine wpl_allocg rfl (run_alloc47 rfl _) ?_) | (refine wpl_storeg kz hzz rfl rfl 57 (.tmp 11) (.tmp 24) rfl rfl rfl (info47 HL.out.1) HL.out.1.2 ?_))
      have hgp := hp.lt
      obtain ⟨g, hg⟩ : ∃ g, g = w0.heap.size := ⟨_, rfl⟩
      rw [← hg] at ko B0 ⊢
      have HG := Lib.hid hg
      clear kz o0 o12
      generalize hw2 : (w0.alloc (.cells Z47 57)).setCells g 0 L.toList = w2 at ko B0 ⊢
      clear hw2
      rw [hg] at B0
      have ks := Bk.new w2 9 #[.string ⟨#[99, 112, 117]⟩, .string ⟨#[109, 101, 109]⟩]
      have ko2 := ko.alloc (.cells #[.string ⟨#[99, 112, 117]⟩, .string ⟨#[109, 101, 109]⟩] 9)
      have B2 := below_tr B0 (below_al w2 (.cells #[.string ⟨#[99, 112, 117]⟩, .string ⟨#[109, 101, 109]⟩] 9))
      have hsg : g < w2.heap.size := ko.lt
      obtain ⟨gs, hgs⟩ : ∃ gs, gs = w2.heap.size := ⟨_, rfl⟩
      rw [← hgs] at ks hsg ⊢
      clear hgs hg ko B0
      generalize w2.alloc (.cells #[.string ⟨#[99, 112, 117]⟩, .string ⟨#[109, 101, 109]⟩] 9) = w3 at ks ko2 B2 ⊢
      clear w2
      go_loopw [9, 36] (fun c i wx => Bk wx g 57 L ∧ Bk wx gs 9 #[.string ⟨#[99, 112, 117]⟩, .string ⟨#[109, 101, 109]⟩] ∧ ((i = .int .i64 0 ∧ c = .int .i64 0 ∧ Below w0.heap.size w0 wx) ∨ (i = .int .i64 1 ∧ c = .int .i64 1 ∧ LookPost a b w0 wx) ∨ (i = .int .i64 2 ∧ c = .int .i64 1 ∧ LookPost a b w0 wx))) (fun c i wx => 2 - (intOf i).toNat)
      case atStart => exact ⟨ko2, ks, .inl ⟨rfl, rfl, B2⟩⟩
      case round =>
        obtain ⟨mo, ms, hcase⟩ := hrel
        have o1 := mo.cell 1
        have o10 := mo.cell 10
        rw [l1] at o1
        rw [l10] at o10
        have s0 := ms.cell 0
        have s1 := ms.cell 1
        clear ks ko2 B2
        rename World => wx
        rcases hcase with ⟨rfl, rfl, hB⟩ | ⟨rfl, rfl, hP⟩ | ⟨rfl, rfl, hP⟩
        · have hfd : ∀ (x y : Option Addr) (w : World), (Instr.field 88 (.agg #[.pointer x, .pointer y]) 0).run Tryz.prog w = .ok (.pointer x) w := fun _ _ _ => by kernel_rfl
          go_wp2_with fail
          have hF := fresh_any wx s bb 1 (DBook p) 2 9 (HS.out.2.1.below hB) 1 (by omega) (by omega) (by omega) (by omega) sP sCpu (by decide) (by decide) p q f n zs (dbook_cpu p) (HS.out.2.2.1.below hB)
          rw [HS.out.2.2.2, show freshF 1 9 [(1, 100)] = (100, 0) from by decide] at hF
          refine hF.mono ?_
          rintro e w4 ⟨rfl, b4⟩
          have B4 := below_tr hB b4
          have mo4 := mo.below' b4
          have ms4 := ms.below' b4
          have p10 := mo4.cell 10
          rw [l10] at p10
          clear hF hB b4 mo ms o1 o10 s0 s1
          go_wp2_with fail
          refine (of_new w4 a b 0 (.map []) 1000 2000 9 9 150 1 1099511627776 (HS.out.1.below B4) (by decide) (by unfold maxLen; omega) sW (by decide) (by simp [Maps.has])).mono ?_
          rintro e w5 ⟨c1, c2, rfl, hc1, hc12, hA5, hC1, hC2, hg5⟩
          have hgl := mo4.lt
          have hgsl := ms4.lt
          have hbl := (HS.out.1.below B4).2.2.lt
          have hal := (HS.out.1.below B4).2.1.lt
          have hgb : g ≠ b := by
            have := HS.out.1.2.2.lt
            have := HG.out
            omega
          have hgsb : gs ≠ b := by
            have := HS.out.1.2.2.lt
            have := HG.out
            omega
          have mo5 := mo4.grown hg5 (by simpa using hgb)
          have ms5 := ms4.grown hg5 (by simpa using hgsb)
          have HA5 := Lib.hid (And.intro hA5 (And.intro hC2 hg5))
          clear hA5 hC2 hg5 mo4 ms4 p10
          go_wp2_with fail
          refine (put_first_is w5 c1 1000 2000 9 9 0 1 100 hC1 (by omega) (by omega) (by omega) (by omega) (by omega) (by omega) (by omega) (by omega)).mono ?_
          rintro e w6 ⟨rfl, ⟨ii, hii, hfi, hC6⟩, b6, hh6⟩
          obtain rfl := first_zero (by omega) hfi
          have hP : LookPost a b w0 w6 := by
            obtain ⟨hA5, hC2, hg5⟩ := HA5.out
            have hA5b := hA5.2.2.lt
            have hA5a := hA5.2.1.lt
            refine ⟨c1, c2, _, ⟨hA5.1, (hh6 a hA5a (by omega) (by omega)).trans hA5.2.1, hA5.2.2.of_block (hh6 b hA5b (by omega) (by omega))⟩, hC6, ?_, ?_⟩
            · obtain ⟨ev, i1, i2, i3, i4⟩ := hC2
              exact ⟨ev, (hh6 _ i1.lt (by omega) (by omega)).trans i1, (hh6 _ i2.lt (by omega) (by omega)).trans i2, i3, own_blockA i4 fun g hg => hh6 g (i4.lt g hg).2 (by have := (i4.lt g hg).1; omega) (by have := (i4.lt g hg).1; omega)⟩
            · have hs4 := B4.size
              exact ⟨b6.os.trans (hg5.os.trans B4.os), b6.tape.trans (hg5.tape.trans B4.tape), b6.output.trans (hg5.output.trans B4.output), Nat.le_trans (Nat.le_trans B4.size hg5.size) b6.size, fun k hk hne => ((b6.block k (by omega)).trans (hg5.block k (Nat.lt_of_lt_of_le hk B4.size) hne)).trans (B4.block k hk)⟩
          have hs5 := mo5.lt
          have mo6 : Bk w6 g 57 L := (hh6 g mo5.lt (by omega) (by omega)).trans mo5
          have ms6 : Bk w6 gs 9 #[.string ⟨#[99, 112, 117]⟩, .string ⟨#[109, 101, 109]⟩] := (hh6 gs ms5.lt (by omega) (by omega)).trans ms5
          have HP := Lib.hid (And.intro mo6 (And.intro ms6 hP))
          clear hP mo6 ms6 hC6 b6 hh6 HA5 hfi mo5 ms5
          go_wp2_with fail
          exact ⟨⟨HP.out.1, HP.out.2.1, .inr (.inl ⟨rfl, rfl, HP.out.2.2⟩)⟩, by simp [intOf]⟩
        · have hBk : BkIs wx s bb 1 (DBook p) 2 9 := by
            obtain ⟨c1, c2, q', hA', hC1, hC2, hg⟩ := id hP
            exact ⟨HS.out.2.1.1, HS.out.2.1.2.1.grown hg (by simpa using Ne.symm n1), HS.out.2.1.2.2.grown hg (by simpa using Ne.symm n2)⟩
          go_wp2_with fail
          refine (fresh_none wx s bb 1 (DBook p) 2 9 hBk 1 (by omega) (by omega) (by omega) (by omega) sP sMem (by decide) (by decide) (dbook_mem p)).mono ?_
          rintro e w4 ⟨rfl, b4⟩
          have HP := Lib.hid (And.intro (mo.below' b4) (And.intro (ms.below' b4) (hP.below b4)))
          clear hP b4 mo ms o1 o10 s0 s1 hBk
          go_wp2_with fail
          exact ⟨⟨HP.out.1, HP.out.2.1, .inr (.inr ⟨rfl, rfl, HP.out.2.2⟩)⟩, by simp [intOf]⟩
        · have HP := Lib.hid hP
          clear hP
          go_wp2_with fail
          exact ⟨.inr ⟨rfl, rfl, HP.out⟩, by simp [intOf]⟩
    · go_wp2_with fail
      go_ret
      exact ⟨rfl, hP⟩
end Go.Proofs.YtjiliegfcljjhaaGreat
