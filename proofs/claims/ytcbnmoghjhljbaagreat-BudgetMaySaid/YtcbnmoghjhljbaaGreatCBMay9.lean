/-
  BudgetMay: the walk of budget.May, of a budget that may be.; BudgetMay: budget.May where there is no store, or the budget may not be; what the law's loop by hand tells of who may go (plain).; BudgetMay: the law's walk.; The walk of the statement BudgetMay, at its arguments as they are read.
-/
import Derived.Test.YtcbnmoghjhljbaaGreatCBMay8
import Derived.Test.YtcbnmoghjhljbaaGreatCBMay6
import Derived.Test.YtcbnmoghjhljbaaGreatCBMay5
import Derived.Test.YtcbnmoghjhljbaaGreatCBMay7
import Derived.Test.YtcbnmoghjhljbaaGreatCBMay1
section
namespace Go.Proofs.YtcbnmoghjhljbaaGreat
open Go.RowKit Go.Proofs.Mem
open Go.Maps (Keyed string_keyed)
open Go.WideMaps (keyOf_string_mk)
set_option linter.unusedVariables false
set_option linter.unusedSimpArgs false
def MayO (w : World) (G : List (List UInt8)) (e : Ending) (w' : World) : Prop :=
  ∃ A c, e = .returned (.tuple #[.slice A G.length c, .int .i64 0]) ∧ Sl w' 1 (.slice A G.length c) G.length (G.map encStr) ∧ Below w.heap.size w w'
set_option maxHeartbeats 8000000 in
set_option maxRecDepth 100000 in
theorem may_any {B : Nat} {w : World} {p b : Nat} {most : Int} {evs : List Ev} {cl : List Ob} (M : S8 B w p b most evs cl) (hcl : cl.length ≤ 100) (k v : Nat) (pc : Bool) (hb : okB k v pc = true) (A : Option Addr) (c : Nat) (l : List (List UInt8)) (hA : Sl w 1 (.slice A l.length c) l.length (l.map encStr)) (hl : l.length ≤ 20) (hls : ∀ s ∈ l, s.length ≤ maxLen) :
    Calls Tryz.prog 7 #[.pointer (some ⟨p, 0, none⟩), .agg #[.int .i64 k, .int .i64 v, .bool pc], .slice A l.length c] w (MayO w (goL cl (mustN k v pc) [] l)) := by
  have HM := Lib.hid (And.intro M (And.intro hcl (And.intro hb (And.intro hA (And.intro hl hls)))))
  have CC := Lib.hid (fun w1 => check_t k v pc w1 hb)
  have hmm := @run_makeMap Tryz.prog
  clear M hcl hb hA hl hls
  go_enter Tryz.func7, Tryz.ntmps7
  go_wp2_with fail
  refine (CC.out _).mono ?_
  rintro e w1 ⟨rfl, b1⟩
  have k4 := (Bk.new w 24 #[.int .i64 k, .int .i64 v, .bool pc]).below' b1
  have B1 := below_tr (below_al w (.cells #[.int .i64 k, .int .i64 v, .bool pc] 24)) b1
  have H1 := Lib.hid (And.intro k4 B1)
  clear k4 B1 b1
  go_wp2_with fail
  clear hmm
  obtain ⟨W0, hW0⟩ : ∃ W0, W0 = (w1.alloc (.map #[] 0)).alloc (.map #[] 0) := ⟨_, rfl⟩
  obtain ⟨gb, hgb⟩ : ∃ g, g = w1.heap.size := ⟨_, rfl⟩
  have m1 : Mp Tryz.prog W0 9 gb 0 (.map []) := by rw [hW0, hgb]; exact (Mp.made w1 Tryz.prog 9).alloc _
  have m2 : Mp Tryz.prog W0 9 (gb + 1) 0 (.map []) := by
    have h := Mp.made (w1.alloc (.map #[] 0)) Tryz.prog 9
    rw [World.size_alloc] at h
    rw [hW0, hgb]
    exact h
  have B0 : Below w1.heap.size w1 W0 := by
    rw [hW0]
    exact below_tr (below_al _ _) (below_al _ _)
  have z0 : W0.heap.size = gb + 2 := by rw [hW0, hgb]; simp
  rw [← hW0, ← hgb]
  have hwg : w.heap.size < gb := by rw [hgb]; exact H1.out.1.lt
  have h0 : Hid (MayI cl w gb (gb + 1) (gb + 2) #[.int .i64 k, .int .i64 v, .bool pc] (goL cl (mustN k v pc) [] (l.take 0)) 0 (.slice none 0 0) W0) := ⟨none, 0, .map [], .map [], rfl, World.ownsRow_nil _ _ _ _, m1, gone_nil, m2, lost_nil cl, below_tr H1.out.2 B0, by omega, H1.out.1.below' B0⟩
  have H4 := Lib.hid (And.intro (H1.out.1.below' B0) hwg)
  clear hW0 hgb m1 m2 B0 z0 H1
  go_loopw [10, 30] (fun v10 vi W => ∃ j : Nat, j ≤ l.length ∧ vi = .int .i64 j ∧ Hid (MayI cl w gb (gb + 1) (gb + 2) #[.int .i64 k, .int .i64 v, .bool pc] (goL cl (mustN k v pc) [] (l.take j)) j v10 W)) (fun _ vi _ => l.length - (intOf vi).toNat)
  case atStart => exact ⟨0, Nat.zero_le _, rfl, h0⟩
  case round =>
    clear h0
    obtain ⟨j, hj, rfl, hJ⟩ := hrel
    have hl20 := HM.out.2.2.2.2.1
    obtain ⟨G, hG⟩ : ∃ G, G = goL cl (mustN k v pc) [] (l.take j) := ⟨_, rfl⟩
    rw [← hG] at hJ
    obtain ⟨Ao, co, Dg, Dl, rfl, hown, hmg, hgone, hml, hlost, hBw, hz, hkb⟩ := hJ.out
    by_cases hlt : j < l.length
    · obtain ⟨s, hs⟩ : ∃ s, l[j]? = some s := ⟨_, List.getElem?_eq_getElem hlt⟩
      obtain ⟨ad, rfl, hadl, hc⟩ := (HM.out.2.2.2.1.below hBw).cell1 (k := j) (u := .string ⟨s.toArray⟩) (by rw [List.getElem?_map, hs]; rfl)
      have hsl : s.length ≤ maxLen := HM.out.2.2.2.2.2 s (List.mem_of_getElem? hs)
      have hnext := goL_take (cl := cl) (mu := mustN k v pc) hs []
      rw [← hG] at hnext
      have hkn : KeyOk (1, (⟨s.toArray⟩ : ByteArray)) := ⟨rfl, hsl⟩
      have hkey := keyOf_string_mk Tryz.underlying9 (s := ⟨s.toArray⟩) hsl
      have CG := Lib.hid (s8_get (HM.out.1.below hBw) 1 ⟨s.toArray⟩ hkn)
      have HJ9 := Lib.hid (And.intro hJ.out (And.intro hnext (And.intro hsl (And.intro hkey (And.intro hs hG)))))
      clear hown hmg hgone hml hlost hBw hz hkb hs hsl hnext hkn hkey hG hJ hadl
      go_wp2_with fail
      refine CG.out.mono ?_
      rintro e W1 ⟨y, rfl, hys, b1, hy0, hy1⟩
      have hko : KeyOk (0, y.p.owner) := ⟨rfl, Nat.le_trans hys.1.p.owner reach_max⟩
      have HKO := Lib.hid hko
      clear hko
      have h47' := cells_is y hys.1
      obtain ⟨L, hL⟩ : ∃ L : Array Value, L = y.cells.toArray := ⟨_, rfl⟩
      rw [← hL] at h47' ⊢
      have h47 := Lib.hid h47'
      have hzz : Z47.size = L.size := h47'.1.symm
      have kz := Bk.new W1 56 Z47
      have k7 := setCells_whole kz hzz
      have b7 : Below W1.heap.size W1 ((W1.alloc (.cells Z47 56)).setCells W1.heap.size 0 L.toList) := below_setCells (g := W1.heap.size) L.toList 0 (below_al W1 _) (Nat.le_refl _)
      obtain ⟨W2, hW2⟩ : ∃ W2, W2 = (W1.alloc (.cells Z47 56)).setCells W1.heap.size 0 L.toList := ⟨_, rfl⟩
      rw [← hW2] at b7 k7
      have HKZ := Lib.hid (And.intro kz hzz)
      rw [hL] at k7
      have hb12 := below_tr b1 b7
      have H2 := Lib.hid (And.intro k7 (And.intro hb12 (And.intro hy0 (And.intro hy1 (HJ9.out.1.skip hb12)))))
      have HW2 := Lib.hid hW2.symm
      clear k7 b1 b7 hys hy0 hy1 hW2 CG hL h47' kz hzz hb12
      cases hf : findN 1 ⟨s.toArray⟩ cl with
      | none =>
        have hno : goL cl (mustN k v pc) [] (l.take (j + 1)) = G := by
          rw [HJ9.out.2.1]
          have : takes cl (mustN k v pc) G s = false := by
            unfold takes
            rw [obAt_none hf]
          rw [this]
          rfl
        have HE : Hid (MayI cl w gb (gb + 1) (gb + 2) #[.int .i64 k, .int .i64 v, .bool pc] (goL cl (mustN k v pc) [] (l.take (j + 1))) (j + 1) (.slice Ao G.length co) W2) := by
          rw [hno]
          exact H2.out.2.2.2.2
        simp only [Option.isSome_none]
        clear hf hno hc
        go_wp2_with (first | ((with_reducible refine at_alloc_ ?_); refine wpl_allocg rfl (run_alloc47 rfl _) ?_) | ((with_reducible refine at_store_ ?_); refine wpl_storeg HKZ.out.1 HKZ.out.2 rfl rfl 56 (.tmp 13) (.tmp 38) rfl rfl rfl (info47 h47.out) h47.out.2 ?_; rw [HW2.out]))
        exact ⟨⟨j + 1, by omega, by go_num, HE⟩, by simp [intOf]; omega⟩
      | some i =>
        obtain ⟨hi, hob⟩ := obAt_of hf
        obtain ⟨_, hynf⟩ := H2.out.2.2.2.1 i hf
        have hnp : (nf y).p = (nf cl[i]).p := by rw [hynf]
        have hph : y.p.phase = cl[i].p.phase := (congrArg Pd.phase hnp : (nf y).p.phase = (nf cl[i]).p.phase)
        have how : y.p.owner = cl[i].p.owner := (congrArg Pd.owner hnp : (nf y).p.owner = (nf cl[i]).p.owner)
        obtain ⟨Ao', co', Dg2, Dl2, eA, hown2, hmg2, hgone2, hml2, hlost2, hBw2, hz2, hkb2⟩ := H2.out.2.2.2.2
        have hlk := hmg2.run_look strKb Tryz.underlying84 (zeroBb W2) HJ9.out.2.2.2.1
        rw [hgone2 s] at hlk
        have e12 : W2.cell? ⟨W1.heap.size, 12, none⟩ = some (.int .i64 y.p.phase) := H2.out.1.cell 12
        obtain ⟨ph, hph9⟩ : ∃ ph, ph = y.p.phase := ⟨_, rfl⟩
        rw [← hph9] at e12
        have htk : takes cl (mustN k v pc) G s = ((decide (cl[i].p.phase = 1) || decide (cl[i].p.phase = 2)) && !decide (s ∈ G) && (if cl[i].p.phase = 2 then match obAt cl 0 cl[i].p.owner with | none => true | some w => decide (mustN k v pc w.w.replicas.toNat < rdyG cl G cl[i].p.owner) else true)) := by
          unfold takes
          rw [hob]
          rfl
        have HS := Lib.hid (And.intro hf (And.intro hob (And.intro hynf (And.intro hph (And.intro how (And.intro htk hph9))))))
        simp only [Option.isSome_some]
        have stay : takes cl (mustN k v pc) G s = false → MayI cl w gb (gb + 1) (gb + 2) #[.int .i64 k, .int .i64 v, .bool pc] (goL cl (mustN k v pc) [] (l.take (j + 1))) (j + 1) (.slice Ao G.length co) W2 := fun h => by
          rw [HJ9.out.2.1, h]
          exact H2.out.2.2.2.2
        have STAY := Lib.hid stay
        clear hf hob hynf hnp hph how hown2 hmg2 hgone2 hml2 hlost2 hBw2 hz2 hkb2 htk hph9 stay hc eA
        cases hgn : decide (s ∈ G) with
        | true =>
          rw [hgn] at hlk
          have hE := STAY.out (by rw [HS.out.2.2.2.2.2.1, hgn]; simp)
          have HE := Lib.hid hE
          clear hE hgn
          go_wp2_with (first | ((with_reducible refine at_alloc_ ?_); refine wpl_allocg rfl (run_alloc47 rfl _) ?_) | ((with_reducible refine at_store_ ?_); refine wpl_storeg HKZ.out.1 HKZ.out.2 rfl rfl 56 (.tmp 13) (.tmp 38) rfl rfl rfl (info47 h47.out) h47.out.2 ?_; rw [HW2.out]))
          exact ⟨⟨j + 1, by omega, by go_num, HE⟩, by simp [intOf]; omega⟩
        | false =>
          rw [hgn] at hlk
          have HGN := Lib.hid hgn
          clear hgn
          cases h1 : ph == 1 with
          | true =>
            have hp1 : ph = 1 := by simpa using h1
            have h2 : (ph == 2) = false := by rw [hp1]; rfl
            have b1 : (ph != 1) = false := by rw [hp1]; rfl
            have eo : W2.cell? ⟨W1.heap.size, 10, none⟩ = some (.string y.p.owner) := H2.out.1.cell 10
            have hBw2 : Below w.heap.size w W2 := by
              obtain ⟨_, _, _, _, _, _, _, _, _, _, h, _⟩ := H2.out.2.2.2.2
              exact h
            have CG2 := Lib.hid (s8_get (HM.out.1.below hBw2) 0 y.p.owner HKO.out)
            clear hBw2
            go_wp2_with (first | ((with_reducible refine at_alloc_ ?_); refine wpl_allocg rfl (run_alloc47 rfl _) ?_) | ((with_reducible refine at_store_ ?_); refine wpl_storeg HKZ.out.1 HKZ.out.2 rfl rfl 56 (.tmp 13) (.tmp 38) rfl rfl rfl (info47 h47.out) h47.out.2 ?_; rw [HW2.out]))
            refine CG2.out.mono ?_
            rintro e W3 ⟨y2, rfl, hys2, b3, hz0, hz1⟩
            have g47' := cells_is y2 hys2.1
            obtain ⟨L2, hL2⟩ : ∃ L : Array Value, L = y2.cells.toArray := ⟨_, rfl⟩
            rw [← hL2] at g47' ⊢
            have g47 := Lib.hid g47'
            have hz2 : Z47.size = L2.size := g47'.1.symm
            have kz2 := Bk.new W3 56 Z47
            have k72 := setCells_whole kz2 hz2
            have b4 : Below W3.heap.size W3 ((W3.alloc (.cells Z47 56)).setCells W3.heap.size 0 L2.toList) := below_setCells (g := W3.heap.size) L2.toList 0 (below_al W3 _) (Nat.le_refl _)
            obtain ⟨W4, hW4⟩ : ∃ W4, W4 = (W3.alloc (.cells Z47 56)).setCells W3.heap.size 0 L2.toList := ⟨_, rfl⟩
            rw [← hW4] at b4 k72
            rw [hL2] at k72
            have HKZ2 := Lib.hid (And.intro kz2 hz2)
            have b24 := below_tr b3 b4
            have HW4 := Lib.hid hW4.symm
            have e12' : W4.cell? ⟨W1.heap.size, 12, none⟩ = some (.int .i64 ph) := keep_cell b24 e12
            obtain ⟨Ao2, co2, Dg3, Dl3, eA, hown3, hmg3, hgone3, hml3, hlost3, hBw3, hz3, hkb3⟩ := HJ9.out.1
            injection eA with eA1 eA2 eA3
            subst eA1 eA3
            have b04 := below_tr H2.out.2.1 b24
            have hmg4 := hmg3.below b04
            have hml4 := hml3.below b04
            have hown4 := own_below hown3 b04
            have hBw4 := below_tr hBw3 b04
            have H5 := Lib.hid (And.intro b24 (And.intro hgone3 (And.intro hml4 (And.intro hlost3 (And.intro hBw4 (Nat.le_trans hz3 b04.size))))))
            have hkb4 := hkb3.below' b04
            have H6 := Lib.hid (And.intro k72 (And.intro hz1 (And.intro hys2 (And.intro hown4 hkb4))))
            clear b04
            have hkey := HJ9.out.2.2.2.1
            clear hys2 b3 kz2 hz2 b4 hW4 g47' hL2 b24 hgone3 hml3 hlost3 hBw3 hz3 hkb3 hkb4 hown3 hmg3 hml4 hBw4 CG2 eo k72 hz1 hz0
            have hjm : j < maxLen := by unfold maxLen; omega
            have hGl : G.length ≤ 20 := by
              rw [HJ9.out.2.2.2.2.2]
              have h1 := goL_len (cl := cl) (mu := mustN k v pc) (l.take j) []
              rw [List.length_take] at h1
              simp only [List.length_nil] at h1
              omega
            have hu : (keys cl).Nodup := by
              obtain ⟨_, _, _, _, R, _⟩ := HM.out.1
              exact R.uniq
            have hsn : s ∉ G := of_decide_eq_false HGN.out
            have ep : cl[i].p.phase = 1 := by rw [← HS.out.2.2.2.1, ← HS.out.2.2.2.2.2.2]; exact hp1
            cases hfo : findN 0 y.p.owner cl with
            | none =>
              have hob0 : obAt cl 0 cl[i].p.owner = none := by rw [← HS.out.2.2.2.2.1]; exact obAt_none hfo
              have hT : takes cl (mustN k v pc) G s = true := takes_free HS.out.2.1 hsn (.inl ep)
              have HN := Lib.hid (show goL cl (mustN k v pc) [] (l.take (j + 1)) = G ++ [s] by rw [HJ9.out.2.1, hT]; rfl)
              have HLM := Lib.hid (lost_same hu H5.out.2.2.2.1 HS.out.2.1 hsn (.inl hob0))
              clear hT
              clear hob0 hfo ep hu
              simp only [Option.isSome_none]
              go_wp2_with (first | ((with_reducible refine at_alloc_ ?_); refine wpl_allocg rfl (run_alloc47 rfl _) ?_) | ((with_reducible refine at_store_ ?_); refine wpl_storeg HKZ2.out.1 HKZ2.out.2 rfl rfl 56 (.tmp 15) (.tmp 65) rfl rfl rfl (info47 g47.out) g47.out.2 ?_; rw [HW4.out]) | (at_mapUpdate; refine wpl_store_map rfl _ _ _ 84 rfl 9 4 strKb Tryz.underlying84 gb j Dg3 rfl hmg4 hjm _ (.bool true) _ rfl rfl hkey ?_; intro w5 hM5 hg5 hs5n; have hs5 := Lib.hid hs5n; clear hs5n; have hown5 := own_grown_far hown4 hg5 (by omega); have hz5 : gb + 2 ≤ (w5.alloc (.cells #[.string ⟨s.toArray⟩] 9)).heap.size := by rw [World.size_alloc, hs5.out]; have := H5.out.2.2.2.2.2; omega) | (at_builtin; refine wpl_append rfl _ _ _ rfl (gb + 2) 9 _ 1 16 Tryz.underlying25 info_strb rfl (by omega) (by omega) (.slice Ao G.length co) G.length (G.map encStr) rfl (hown5.alloc _) (.slice (some ⟨w5.heap.size, 0, none⟩) 1 1) 1 [.string ⟨s.toArray⟩] rfl (Sl.made (size := 1) w5 #[.string ⟨s.toArray⟩] 9 1 1 (Nat.le_refl _) rfl) (by intro u hu; simp at hu; subst hu; rfl) (by omega) hz5 ?_; intro v6 w6 hown6 hgrow6 _; obtain ⟨vA, vc, rfl, hvc⟩ := id (Sl.of_own hown6)))
              have hfin := may_goes (gb := gb) (.cells #[.string ⟨s.toArray⟩] 9) hown5 hM5 (gone_put hmg4.isMap H5.out.2.1 s) ((H5.out.2.2.1.grown hg5 (fun (e : some (gb + 1) = some gb) => by injection e with e; omega)).mono (Nat.le_succ _)) HLM.out (may_map H5.out.2.2.2.2.1 hg5 H4.out.2) H4.out.2 (by rw [hs5.out]; exact H5.out.2.2.2.2.2) (bk_map H6.out.2.2.2.2 hg5 H4.out.2) hown6 hgrow6
              exact ⟨⟨j + 1, by omega, by go_num, by rw [HN.out]; exact Lib.hid hfin⟩, by simp [intOf]; omega⟩
            | some i2 =>
              have hT : takes cl (mustN k v pc) G s = true := takes_free HS.out.2.1 hsn (.inl ep)
              have HN := Lib.hid (show goL cl (mustN k v pc) [] (l.take (j + 1)) = G ++ [s] by rw [HJ9.out.2.1, hT]; rfl)
              have HLM := Lib.hid (lost_same hu H5.out.2.2.2.1 HS.out.2.1 hsn (.inr (by rw [ep]; decide)))
              clear hT
              clear hfo ep hu
              simp only [Option.isSome_some]
              go_wp2_with (first | ((with_reducible refine at_alloc_ ?_); refine wpl_allocg rfl (run_alloc47 rfl _) ?_) | ((with_reducible refine at_store_ ?_); refine wpl_storeg HKZ2.out.1 HKZ2.out.2 rfl rfl 56 (.tmp 15) (.tmp 65) rfl rfl rfl (info47 g47.out) g47.out.2 ?_; rw [HW4.out]) | (at_mapUpdate; refine wpl_store_map rfl _ _ _ 84 rfl 9 4 strKb Tryz.underlying84 gb j Dg3 rfl hmg4 hjm _ (.bool true) _ rfl rfl hkey ?_; intro w5 hM5 hg5 hs5n; have hs5 := Lib.hid hs5n; clear hs5n; have hown5 := own_grown_far hown4 hg5 (by omega); have hz5 : gb + 2 ≤ (w5.alloc (.cells #[.string ⟨s.toArray⟩] 9)).heap.size := by rw [World.size_alloc, hs5.out]; have := H5.out.2.2.2.2.2; omega) | (at_builtin; refine wpl_append rfl _ _ _ rfl (gb + 2) 9 _ 1 16 Tryz.underlying25 info_strb rfl (by omega) (by omega) (.slice Ao G.length co) G.length (G.map encStr) rfl (hown5.alloc _) (.slice (some ⟨w5.heap.size, 0, none⟩) 1 1) 1 [.string ⟨s.toArray⟩] rfl (Sl.made (size := 1) w5 #[.string ⟨s.toArray⟩] 9 1 1 (Nat.le_refl _) rfl) (by intro u hu; simp at hu; subst hu; rfl) (by omega) hz5 ?_; intro v6 w6 hown6 hgrow6 _; obtain ⟨vA, vc, rfl, hvc⟩ := id (Sl.of_own hown6)))
              have hfin := may_goes (gb := gb) (.cells #[.string ⟨s.toArray⟩] 9) hown5 hM5 (gone_put hmg4.isMap H5.out.2.1 s) ((H5.out.2.2.1.grown hg5 (fun (e : some (gb + 1) = some gb) => by injection e with e; omega)).mono (Nat.le_succ _)) HLM.out (may_map H5.out.2.2.2.2.1 hg5 H4.out.2) H4.out.2 (by rw [hs5.out]; exact H5.out.2.2.2.2.2) (bk_map H6.out.2.2.2.2 hg5 H4.out.2) hown6 hgrow6
              exact ⟨⟨j + 1, by omega, by go_num, by rw [HN.out]; exact Lib.hid hfin⟩, by simp [intOf]; omega⟩
          | false =>
            cases h2 : ph == 2 with
            | true =>
              have hp1 : ph = 2 := by simpa using h2
              have b1 : (ph != 1) = true := by rw [hp1]; rfl
              have b2 : (ph != 2) = false := by rw [hp1]; rfl
              have eo : W2.cell? ⟨W1.heap.size, 10, none⟩ = some (.string y.p.owner) := H2.out.1.cell 10
              have hBw2 : Below w.heap.size w W2 := by
                obtain ⟨_, _, _, _, _, _, _, _, _, _, h, _⟩ := H2.out.2.2.2.2
                exact h
              have CG2 := Lib.hid (s8_get (HM.out.1.below hBw2) 0 y.p.owner HKO.out)
              clear hBw2
              go_wp2_with (first | ((with_reducible refine at_alloc_ ?_); refine wpl_allocg rfl (run_alloc47 rfl _) ?_) | ((with_reducible refine at_store_ ?_); refine wpl_storeg HKZ.out.1 HKZ.out.2 rfl rfl 56 (.tmp 13) (.tmp 38) rfl rfl rfl (info47 h47.out) h47.out.2 ?_; rw [HW2.out]))
              refine CG2.out.mono ?_
              rintro e W3 ⟨y2, rfl, hys2, b3, hz0, hz1⟩
              have g47' := cells_is y2 hys2.1
              obtain ⟨L2, hL2⟩ : ∃ L : Array Value, L = y2.cells.toArray := ⟨_, rfl⟩
              rw [← hL2] at g47' ⊢
              have g47 := Lib.hid g47'
              have hz2 : Z47.size = L2.size := g47'.1.symm
              have kz2 := Bk.new W3 56 Z47
              have k72 := setCells_whole kz2 hz2
              have b4 : Below W3.heap.size W3 ((W3.alloc (.cells Z47 56)).setCells W3.heap.size 0 L2.toList) := below_setCells (g := W3.heap.size) L2.toList 0 (below_al W3 _) (Nat.le_refl _)
              obtain ⟨W4, hW4⟩ : ∃ W4, W4 = (W3.alloc (.cells Z47 56)).setCells W3.heap.size 0 L2.toList := ⟨_, rfl⟩
              rw [← hW4] at b4 k72
              rw [hL2] at k72
              have HKZ2 := Lib.hid (And.intro kz2 hz2)
              have b24 := below_tr b3 b4
              have HW4 := Lib.hid hW4.symm
              have e12' : W4.cell? ⟨W1.heap.size, 12, none⟩ = some (.int .i64 ph) := keep_cell b24 e12
              obtain ⟨Ao2, co2, Dg3, Dl3, eA, hown3, hmg3, hgone3, hml3, hlost3, hBw3, hz3, hkb3⟩ := HJ9.out.1
              injection eA with eA1 eA2 eA3
              subst eA1 eA3
              have b04 := below_tr H2.out.2.1 b24
              have hmg4 := hmg3.below b04
              have hml4 := hml3.below b04
              have hown4 := own_below hown3 b04
              have hBw4 := below_tr hBw3 b04
              have H5 := Lib.hid (And.intro b24 (And.intro hgone3 (And.intro hml4 (And.intro hlost3 (And.intro hBw4 (Nat.le_trans hz3 b04.size))))))
              have hkb4 := hkb3.below' b04
              have H6 := Lib.hid (And.intro k72 (And.intro hz1 (And.intro hys2 (And.intro hown4 hkb4))))
              clear b04
              have hkey := HJ9.out.2.2.2.1
              clear hys2 b3 kz2 hz2 b4 hW4 g47' hL2 b24 hgone3 hml3 hlost3 hBw3 hz3 hkb3 hkb4 hown3 hmg3 hml4 hBw4 CG2 eo k72 hz1 hz0
              have hjm : j < maxLen := by unfold maxLen; omega
              have hGl : G.length ≤ 20 := by
                rw [HJ9.out.2.2.2.2.2]
                have h1 := goL_len (cl := cl) (mu := mustN k v pc) (l.take j) []
                rw [List.length_take] at h1
                simp only [List.length_nil] at h1
                omega
              have hu : (keys cl).Nodup := by
                obtain ⟨_, _, _, _, R, _⟩ := HM.out.1
                exact R.uniq
              have hsn : s ∉ G := of_decide_eq_false HGN.out
              have ep : cl[i].p.phase = 2 := by rw [← HS.out.2.2.2.1, ← HS.out.2.2.2.2.2.2]; exact hp1
              cases hfo : findN 0 y.p.owner cl with
              | none =>
                have hob0 : obAt cl 0 cl[i].p.owner = none := by rw [← HS.out.2.2.2.2.1]; exact obAt_none hfo
                have hT : takes cl (mustN k v pc) G s = true := takes_free HS.out.2.1 hsn (.inr ⟨ep, hob0⟩)
                have HN := Lib.hid (show goL cl (mustN k v pc) [] (l.take (j + 1)) = G ++ [s] by rw [HJ9.out.2.1, hT]; rfl)
                have HLM := Lib.hid (lost_same hu H5.out.2.2.2.1 HS.out.2.1 hsn (.inl hob0))
                clear hT
                clear hob0 hfo ep hu
                simp only [Option.isSome_none]
                go_wp2_with (first | ((with_reducible refine at_alloc_ ?_); refine wpl_allocg rfl (run_alloc47 rfl _) ?_) | ((with_reducible refine at_store_ ?_); refine wpl_storeg HKZ2.out.1 HKZ2.out.2 rfl rfl 56 (.tmp 15) (.tmp 65) rfl rfl rfl (info47 g47.out) g47.out.2 ?_; rw [HW4.out]) | (at_mapUpdate; refine wpl_store_map rfl _ _ _ 84 rfl 9 4 strKb Tryz.underlying84 gb j Dg3 rfl hmg4 hjm _ (.bool true) _ rfl rfl hkey ?_; intro w5 hM5 hg5 hs5n; have hs5 := Lib.hid hs5n; clear hs5n; have hown5 := own_grown_far hown4 hg5 (by omega); have hz5 : gb + 2 ≤ (w5.alloc (.cells #[.string ⟨s.toArray⟩] 9)).heap.size := by rw [World.size_alloc, hs5.out]; have := H5.out.2.2.2.2.2; omega) | (at_builtin; refine wpl_append rfl _ _ _ rfl (gb + 2) 9 _ 1 16 Tryz.underlying25 info_strb rfl (by omega) (by omega) (.slice Ao G.length co) G.length (G.map encStr) rfl (hown5.alloc _) (.slice (some ⟨w5.heap.size, 0, none⟩) 1 1) 1 [.string ⟨s.toArray⟩] rfl (Sl.made (size := 1) w5 #[.string ⟨s.toArray⟩] 9 1 1 (Nat.le_refl _) rfl) (by intro u hu; simp at hu; subst hu; rfl) (by omega) hz5 ?_; intro v6 w6 hown6 hgrow6 _; obtain ⟨vA, vc, rfl, hvc⟩ := id (Sl.of_own hown6)))
                have hfin := may_goes (gb := gb) (.cells #[.string ⟨s.toArray⟩] 9) hown5 hM5 (gone_put hmg4.isMap H5.out.2.1 s) ((H5.out.2.2.1.grown hg5 (fun (e : some (gb + 1) = some gb) => by injection e with e; omega)).mono (Nat.le_succ _)) HLM.out (may_map H5.out.2.2.2.2.1 hg5 H4.out.2) H4.out.2 (by rw [hs5.out]; exact H5.out.2.2.2.2.2) (bk_map H6.out.2.2.2.2 hg5 H4.out.2) hown6 hgrow6
                exact ⟨⟨j + 1, by omega, by go_num, by rw [HN.out]; exact Lib.hid hfin⟩, by simp [intOf]; omega⟩
              | some i2 =>
                obtain ⟨hi2, hob2⟩ := obAt_of hfo
                obtain ⟨_, hnf2⟩ := H6.out.2.1 i2 hfo
                have hko2 := obAt_key hob2
                obtain ⟨ow, how⟩ : ∃ ow, ow = y.p.owner.data.toList := ⟨_, rfl⟩
                have hoe : (⟨ow.toArray⟩ : ByteArray) = y.p.owner := by rw [how]
                have hnm : y2.name = ⟨ow.toArray⟩ := by rw [(nf_key hnf2).2, hko2.2.2, hoe]
                have hrw : y2.w.replicas = cl[i2].w.replicas := by
                  have h : (nf y2).w = (nf cl[i2]).w := by rw [hnf2]
                  exact (congrArg Wl.replicas h : (nf y2).w.replicas = (nf cl[i2]).w.replicas)
                have hRk : okR cl[i2].w.replicas = true := wl_may hko2.2.1 (by
                  obtain ⟨_, _, _, _, _, _, _, _, hg⟩ := HM.out.1
                  exact hg _ hko2.1)
                obtain ⟨R, hR⟩ : ∃ R : Nat, R = cl[i2].w.replicas.toNat := ⟨_, rfl⟩
                have hRe : cl[i2].w.replicas = (R : Int) := by
                  have := okR_t hRk
                  omega
                have hRk' : okR (R : Int) = true := by rw [← hRe]; exact hRk
                have e1 : W4.cell? ⟨W3.heap.size, 1, none⟩ = some (.string ⟨ow.toArray⟩) := by rw [← hnm]; exact H6.out.1.cell 1
                have e3 : W4.cell? ⟨W3.heap.size, 3, none⟩ = some (.int .i64 (R : Int)) := by rw [← hRe, ← hrw]; exact H6.out.1.cell 3
                obtain ⟨cc, hcv, hcd⟩ := H5.out.2.2.2.1 ow
                have hd := hcd (by rw [hoe, hob2]; rfl)
                obtain ⟨d, hdd⟩ : ∃ d, d = rdyG cl G ⟨ow.toArray⟩ := ⟨_, rfl⟩
                obtain ⟨n, hnn⟩ : ∃ n, n = rdy cl ⟨ow.toArray⟩ := ⟨_, rfl⟩
                have hnl : n ≤ 100 := by rw [hnn]; exact Nat.le_trans (rdy_le _) HM.out.2.1
                rw [← hdd, ← hnn] at hd
                have hob9 : obAt cl 0 cl[i].p.owner = some cl[i2] := by rw [← HS.out.2.2.2.2.1]; exact hob2
                have htk9 : takes cl (mustN k v pc) G s = decide (mustN k v pc R < d) := by
                  rw [takes_own HS.out.2.1 hsn ep hob9, ← hR, hdd, ← HS.out.2.2.2.2.1, hoe]
                have hro : rdB ⟨ow.toArray⟩ cl[i] = true := by
                  unfold rdB
                  rw [ep, hoe, HS.out.2.2.2.2.1]
                  simp
                have hol : ow.length ≤ maxLen := by rw [how]; exact HKO.out.2
                have hkey9 := keyOf_string_mk Tryz.underlying9 (s := ⟨ow.toArray⟩) hol
                have hlk2 := fun (d' : Nat) (os : Array Obj) => (H5.out.2.2.1.below (below_regrown W4 d' os)).run_look strKb Tryz.underlying85 (zeroIb _) hkey9
                simp only [hcv] at hlk2
                have CRd := Lib.hid (fun (w1 : World) (hb1 : Below W4.heap.size W4 w1) => ready_any ((HM.out.1.below H5.out.2.2.2.2.1).below hb1) HM.out.2.1 ⟨ow.toArray⟩)
                rw [← hnn] at CRd
                have CRm := Lib.hid (fun w1 => room_ok k v pc R d w1 HM.out.2.2.1 hRk' (by omega))
                obtain ⟨rm, hrm⟩ : ∃ rm, rm = d - mustN k v pc R := ⟨_, rfl⟩
                rw [← hrm] at CRm
                have hsub : wrap64 ((n : Int) - (cc : Int)) = (d : Int) := by
                  rw [IntWalk.wrap64_in _ (by omega)]
                  omega
                have hmax : max (IntKind.i64.wrap ((n : Int) - (cc : Int))) 0 = (d : Int) := by
                  rw [show IntKind.i64.wrap ((n : Int) - (cc : Int)) = (d : Int) from (IntWalk.i64_left _).trans hsub]
                  omega
                have hadd : wrap64 ((cc : Int) + 1) = ((cc + 1 : Nat) : Int) := by
                  rw [IntWalk.wrap64_in _ (by omega)]
                  omega
                have HC := Lib.hid (And.intro htk9 (And.intro hrm (And.intro hro (And.intro hcv (And.intro hadd (And.intro hu (And.intro hol hkey9)))))))
                have z1 := cell_regrown e1
                have z3 := cell_regrown e3
                have HE9 := Lib.hid (And.intro e1 e3)
                clear hfo hob2 hnf2 hko2 how hoe hnm hrw hRk hR hRe hRk' hcv hcd hd hdd hnn hnl hob9 htk9 hro hadd hu hol hkey9 hrm ep e1 e3
                simp only [Option.isSome_some]
                go_wp2_with (first | ((with_reducible refine at_alloc_ ?_); refine wpl_allocg rfl (run_alloc47 rfl _) ?_) | ((with_reducible refine at_store_ ?_); refine wpl_storeg HKZ2.out.1 HKZ2.out.2 rfl rfl 56 (.tmp 15) (.tmp 65) rfl rfl rfl (info47 g47.out) g47.out.2 ?_; rw [HW4.out]))
                refine wp_region_quiet_below (by kernel_rfl) (by kernel_rfl) ?_
                refine q_load H6.out.2.2.2.2 rfl 24 (.tmp 4) rfl rfl _ Tryz.underlying24 rfl (by kernel_rfl) ?_
                repeat (quiet_step (first | (go_at_call 26; (with_reducible exact Calls.regrown_of (CRd.out _ (below_regrown _ _ _)))) | (go_at_call 24; (with_reducible exact Calls.regrown_of (CRm.out _)))))
                refine wpQuiet_nil ?_
                rintro _ ⟨rp, rfl⟩
                have hBz := below_regrown W4 rp.d rp.os
                generalize «Sort».grow (redrawn W4 rp.d) rp.os = W5 at hBz ⊢
                clear z1 z3 hlk2 CRd CRm hsub hmax e12'
                have f1 := keep_cell hBz HE9.out.1
                have hml5 := H5.out.2.2.1.below hBz
                have hmg5 := hmg4.below hBz
                have hown9 := own_below hown4 hBz
                have hkb5 := H6.out.2.2.2.2.below' hBz
                have hBw5 := below_tr H5.out.2.2.2.2.1 hBz
                have hz59 : gb + 2 ≤ W5.heap.size := Nat.le_trans H5.out.2.2.2.2.2 hBz.size
                cases hgo : decide (mustN k v pc R < d) with
                | false =>
                  have hrm0 : rm = 0 := by
                    have := of_decide_eq_false hgo
                    have := HC.out.2.1
                    omega
                  subst hrm0
                  have hsk : goL cl (mustN k v pc) [] (l.take (j + 1)) = G := by rw [HJ9.out.2.1, HC.out.1, hgo]; rfl
                  have HE := Lib.hid (show MayI cl w gb (gb + 1) (gb + 2) #[.int .i64 k, .int .i64 v, .bool pc] (goL cl (mustN k v pc) [] (l.take (j + 1))) (j + 1) (.slice Ao G.length co) W5 by
                    rw [hsk]
                    exact ⟨Ao, co, Dg3, Dl3, rfl, hown9, hmg5.mono (Nat.le_succ _), H5.out.2.1, hml5.mono (Nat.le_succ _), H5.out.2.2.2.1, hBw5, hz59, hkb5⟩)
                  clear hml5 hmg5 hown9 hkb5 hBw5 hz59 hsk hgo f1
                  go_wp2_with fail
                  exact ⟨⟨j + 1, by omega, by go_num, HE⟩, by simp [intOf]; omega⟩
                | true =>
                  have hr1 : 0 < rm := by
                    have := of_decide_eq_true hgo
                    have := HC.out.2.1
                    omega
                  have hr2 : ((rm : Int) == 0) = false := by
                    have : ¬ (rm : Int) = 0 := by omega
                    simpa using this
                  have hr3 : (rm == 0) = false := by
                    have : ¬ rm = 0 := by omega
                    simpa using this
                  have HN := Lib.hid (show goL cl (mustN k v pc) [] (l.take (j + 1)) = G ++ [s] by rw [HJ9.out.2.1, HC.out.1, hgo]; rfl)
                  have HLM := Lib.hid (lost_put HC.out.2.2.2.2.2.1 hml5.isMap H5.out.2.2.2.1 HS.out.2.1 hsn HC.out.2.2.1 HC.out.2.2.2.1)
                  have hlk5 := hml5.run_look strKb Tryz.underlying85 (zeroIb W5) HC.out.2.2.2.2.2.2.2
                  rw [HC.out.2.2.2.1] at hlk5
                  have HW5 := Lib.hid (And.intro hkb5 (And.intro hBw5 hz59))
                  clear hgo hkb5 hBw5 hz59
                  go_wp2_with (first | (at_mapUpdate; refine wpl_store_map rfl _ _ _ 85 rfl 9 3 strKb Tryz.underlying85 (gb + 1) j Dl3 rfl hml5 hjm _ _ _ rfl rfl HC.out.2.2.2.2.2.2.2 ?_; intro wm hMm hgm hsmn; have hsm := Lib.hid hsmn; clear hsmn; have hmgm := hmg5.grown hgm (fun e => by injection e with e; omega); have hownm := own_grown_far hown9 hgm (by omega)) | (at_mapUpdate; refine wpl_store_map rfl _ _ _ 84 rfl 9 4 strKb Tryz.underlying84 gb j Dg3 rfl hmgm hjm _ (.bool true) _ rfl rfl hkey ?_; intro w5 hM5 hg5 hs5n; have hs5 := Lib.hid hs5n; clear hs5n; have hown5 := own_grown_far hownm hg5 (by omega); have hz5 : gb + 2 ≤ (w5.alloc (.cells #[.string ⟨s.toArray⟩] 9)).heap.size := by rw [World.size_alloc, hs5.out, hsm.out]; have := HW5.out.2.2; omega) | (at_builtin; refine wpl_append rfl _ _ _ rfl (gb + 2) 9 _ 1 16 Tryz.underlying25 info_strb rfl (by omega) (by omega) (.slice Ao G.length co) G.length (G.map encStr) rfl (hown5.alloc _) (.slice (some ⟨w5.heap.size, 0, none⟩) 1 1) 1 [.string ⟨s.toArray⟩] rfl (Sl.made (size := 1) w5 #[.string ⟨s.toArray⟩] 9 1 1 (Nat.le_refl _) rfl) (by intro u hu; simp at hu; subst hu; rfl) (by omega) hz5 ?_; intro v6 w6 hown6 hgrow6 _; obtain ⟨vA, vc, rfl, hvc⟩ := id (Sl.of_own hown6)))
                  have hMm9 : Mp Tryz.prog wm 9 (gb + 1) (j + 1) (Dl3.put (.string ow) (.held (.int .i64 ((cc + 1 : Nat) : Int)))) := by
                    rw [← HC.out.2.2.2.2.1]
                    exact hMm
                  have hfin := may_goes (gb := gb) (.cells #[.string ⟨s.toArray⟩] 9) hown5 hM5 (gone_put hmg4.isMap H5.out.2.1 s) ((hMm9.grown hg5 (fun (e : some (gb + 1) = some gb) => by injection e with e; omega))) HLM.out (may_map (may_map HW5.out.2.1 hgm (by have := H4.out.2; omega)) hg5 H4.out.2) H4.out.2 (by rw [hs5.out, hsm.out]; exact HW5.out.2.2) (bk_map (bk_map HW5.out.1 hgm (by have := H4.out.2; omega)) hg5 H4.out.2) hown6 hgrow6
                  exact ⟨⟨j + 1, by omega, by go_num, by rw [HN.out]; exact Lib.hid hfin⟩, by simp [intOf]; omega⟩
            | false =>
              have hE := STAY.out (by
                have e1 : ¬ cl[i].p.phase = 1 := by rw [← HS.out.2.2.2.1, ← HS.out.2.2.2.2.2.2]; simpa using h1
                have e2 : ¬ cl[i].p.phase = 2 := by rw [← HS.out.2.2.2.1, ← HS.out.2.2.2.2.2.2]; simpa using h2
                rw [HS.out.2.2.2.2.2.1]
                simp [e1, e2])
              have HE := Lib.hid hE
              have b1 : (ph != 1) = true := by simp [bne, h1]
              have b2 : (ph != 2) = true := by simp [bne, h2]
              clear hE
              go_wp2_with (first | ((with_reducible refine at_alloc_ ?_); refine wpl_allocg rfl (run_alloc47 rfl _) ?_) | ((with_reducible refine at_store_ ?_); refine wpl_storeg HKZ.out.1 HKZ.out.2 rfl rfl 56 (.tmp 13) (.tmp 38) rfl rfl rfl (info47 h47.out) h47.out.2 ?_; rw [HW2.out]))
              exact ⟨⟨j + 1, by omega, by go_num, HE⟩, by simp [intOf]; omega⟩
    · have hjl : j = l.length := by omega
      subst hjl
      rw [List.take_length] at hG
      have HE := Lib.hid (And.intro hG (And.intro hown hBw))
      clear hown hmg hgone hml hlost hBw hz hkb hG hJ
      go_wp2_with fail
      go_ret2
      exact ⟨Ao, co, by rw [← HE.out.1]; rfl, by rw [← HE.out.1]; exact Sl.of_own HE.out.2.1, HE.out.2.2⟩
end Go.Proofs.YtcbnmoghjhljbaaGreat
end
section
namespace Go.Proofs.YtcbnmoghjhljbaaGreat
open Go.RowKit Go.Proofs.Mem
set_option linter.unusedVariables false
set_option linter.unusedSimpArgs false
theorem may_nil (k v : Int) (pc : Bool) (A : Option Addr) (n c : Nat) (w : World) :
    Calls Tryz.prog 7 #[.pointer none, .agg #[.int .i64 k, .int .i64 v, .bool pc], .slice A n c] w fun e w' => e = .returned (.tuple #[.slice none 0 0, .int .i64 1]) ∧ Below w.heap.size w w' := by
  have hB := below_al w (.cells #[.int .i64 k, .int .i64 v, .bool pc] 24)
  have HB := Lib.hid hB
  clear hB
  go_enter Tryz.func7, Tryz.ntmps7
  go_wp2_with fail
  go_ret2
  exact ⟨rfl, HB.out⟩
theorem may_bad (k v : Int) (pc : Bool) (h : okB k v pc = false) (p : Nat) (A : Option Addr) (n c : Nat) (w : World) :
    Calls Tryz.prog 7 #[.pointer (some ⟨p, 0, none⟩), .agg #[.int .i64 k, .int .i64 v, .bool pc], .slice A n c] w fun e w' => e = .returned (.tuple #[.slice none 0 0, .int .i64 1]) ∧ Below w.heap.size w w' := by
  have CC := Lib.hid (fun w1 => check_f k v pc w1 h)
  clear h
  go_enter Tryz.func7, Tryz.ntmps7
  go_wp2_with fail
  refine (CC.out _).mono ?_
  rintro e w1 ⟨rfl, b1⟩
  have HB := Lib.hid (below_tr (below_al w (.cells #[.int .i64 k, .int .i64 v, .bool pc] 24)) b1)
  clear b1
  go_wp2_with fail
  go_ret2
  exact ⟨rfl, HB.out⟩
section
variable {cl cl' : List Ob} {mu : Nat → Nat} {G : List (List UInt8)} {s : List UInt8} {i : Nat}
theorem ev_pod (h : EvR cl cl' G) (hf : findN 1 ⟨s.toArray⟩ cl' = some i) : ∃ (hi : i < cl.length) (hi' : i < cl'.length), obAt cl 1 ⟨s.toArray⟩ = some cl[i] ∧ cl[i].kind = 1 ∧ cl[i].name = ⟨s.toArray⟩ ∧ (s ∈ G → cl'[i].p.phase = 0) ∧ (s ∉ G → cl'[i].p.phase = cl[i].p.phase ∧ cl'[i].p.owner = cl[i].p.owner) := by
  rw [h.find] at hf
  obtain ⟨hi, hob⟩ := obAt_of hf
  obtain ⟨_, hk, hn⟩ := obAt_key hob
  have hi' : i < cl'.length := by rw [h.len]; exact hi
  have en : cl[i].name.data.toList = s := by rw [hn]
  refine ⟨hi, hi', hob, hk, hn, fun hg => (h.gone i hi hi' hk (by rw [en]; exact hg)).2.2, fun hg => ?_⟩
  have e := h.stay i hi hi' fun _ => by rw [en]; exact hg
  have hp : (nf cl'[i]).p = (nf cl[i]).p := by rw [e]
  exact ⟨(congrArg Pd.phase hp : (nf cl'[i]).p.phase = (nf cl[i]).p.phase), (congrArg Pd.owner hp : (nf cl'[i]).p.owner = (nf cl[i]).p.owner)⟩
theorem ev_wl (h : EvR cl cl' G) {g : ByteArray} (hf : findN 0 g cl' = some i) : ∃ (hi : i < cl.length) (hi' : i < cl'.length), obAt cl 0 g = some cl[i] ∧ cl'[i].w.replicas = cl[i].w.replicas ∧ cl'[i].kind = 0 ∧ cl'[i].name = g := by
  rw [h.find] at hf
  obtain ⟨hi, hob⟩ := obAt_of hf
  obtain ⟨_, hk, hn⟩ := obAt_key hob
  have hi' : i < cl'.length := by rw [h.len]; exact hi
  have e := h.stay i hi hi' fun hk1 => by rw [hk] at hk1; exact absurd hk1 (by decide)
  have hw : (nf cl'[i]).w = (nf cl[i]).w := by rw [e]
  have hkn := h.key hi hi'
  exact ⟨hi, hi', hob, (congrArg Wl.replicas hw : (nf cl'[i]).w.replicas = (nf cl[i]).w.replicas), hkn.1.trans hk, hkn.2.trans hn⟩
theorem law_no1 (h : EvR cl cl' G) (hf : findN 1 ⟨s.toArray⟩ cl' = none) : takes cl mu G s = false := by
  rw [h.find] at hf
  unfold takes
  rw [obAt_none hf]
theorem law_no2 (h : EvR cl cl' G) (hf : findN 1 ⟨s.toArray⟩ cl' = some i) (hi' : i < cl'.length) (hp : (decide (cl'[i].p.phase = 1) || decide (cl'[i].p.phase = 2)) = false) : takes cl mu G s = false := by
  obtain ⟨hi, _, hob, hk, hn, hg, hs⟩ := ev_pod h hf
  unfold takes
  rw [hob]
  by_cases e : s ∈ G
  · simp [e]
  · rw [(hs e).1] at hp
    simp only [hp, Bool.false_and]
theorem law_no3 (h : EvR cl cl' G) (hu : (keys cl).Nodup) (hf : findN 1 ⟨s.toArray⟩ cl' = some i) (hi' : i < cl'.length) (hp : cl'[i].p.phase = 2) {i2 : Nat} (hw : findN 0 cl'[i].p.owner cl' = some i2) (hi2 : i2 < cl'.length) (hle : rdy cl' cl'[i].p.owner ≤ mu cl'[i2].w.replicas.toNat) : takes cl mu G s = false := by
  obtain ⟨hi, _, hob, hk, hn, hg, hs⟩ := ev_pod h hf
  have e : s ∉ G := fun hg' => by
    rw [hg hg'] at hp
    exact absurd hp (by decide)
  obtain ⟨e1, e2⟩ := hs e
  obtain ⟨hj, _, hob2, er, _, _⟩ := ev_wl h hw
  rw [e1] at hp
  rw [e2] at hob2
  rw [takes_own hob e hp hob2, ← er, ← e2, ← h.rd hu]
  exact decide_eq_false (by omega)
theorem law_yes (h : EvR cl cl' G) (hu : (keys cl).Nodup) (hf : findN 1 ⟨s.toArray⟩ cl' = some i) (hi' : i < cl'.length) (hp : (decide (cl'[i].p.phase = 1) || decide (cl'[i].p.phase = 2)) = true)
    (hno : ∀ i2 (hi2 : i2 < cl'.length), cl'[i].p.phase = 2 → findN 0 cl'[i].p.owner cl' = some i2 → mu cl'[i2].w.replicas.toNat < rdy cl' cl'[i].p.owner) : takes cl mu G s = true := by
  obtain ⟨hi, _, hob, hk, hn, hg, hs⟩ := ev_pod h hf
  have e : s ∉ G := fun hg' => by
    rw [hg hg'] at hp
    exact absurd hp (by decide)
  obtain ⟨e1, e2⟩ := hs e
  by_cases h1 : cl[i].p.phase = 1
  · exact takes_free hob e (.inl h1)
  · have h2 : cl[i].p.phase = 2 := by
      rw [e1] at hp
      simpa [h1] using hp
    cases hw : findN 0 cl'[i].p.owner cl' with
    | none =>
      have hw2 := hw
      rw [h.find, e2] at hw2
      exact takes_free hob e (.inr ⟨h2, obAt_none hw2⟩)
    | some i2 =>
      obtain ⟨hj, hj', hob2, er, _, _⟩ := ev_wl h hw
      have hlt := hno i2 hj' (e1.trans h2) hw
      rw [h.rd hu, er, e2] at hlt
      rw [e2] at hob2
      rw [takes_own hob e h2 hob2]
      exact decide_eq_true hlt
end
end Go.Proofs.YtcbnmoghjhljbaaGreat
end
section
namespace Go.Proofs.YtcbnmoghjhljbaaGreat
open Go.RowKit Go.Proofs.Mem
set_option linter.unusedVariables false
set_option linter.unusedSimpArgs false
theorem q_loadgd {P : Program} {ops : Array Oper} {w0 : World} {Q : Act → Prop} {a : Act} {o : Oper} {rest : List Oper} {g : Nat} {t : TypeId} {cs : Array Value} (hk : Bk w0 g t cs) (hw : Region.wanted o (yielded ops a.tmps) = true) (ty : TypeId) (x : Operand) (ho : o.op = .load ty x)
    (hx : a.eval x = .pointer (some ⟨g, 0, none⟩)) (d : TypeDesc) (hu : P.underlying ty = some d) (hd : d.isRow = true) (hi : (P.info? ty).map (·.size) = some cs.size)
    (h : wpQuiet P ops (fun w' => ∃ p : Regrown, w' = «Sort».grow (redrawn w0 p.d) p.os) Q rest (a.put o.dst (.agg cs))) : wpQuiet P ops (fun w' => ∃ p : Regrown, w' = «Sort».grow (redrawn w0 p.d) p.os) Q (o :: rest) a := by
  refine wpQuiet_step fun K hK => ?_
  rw [if_pos hw]
  refine ⟨.agg cs, fun w' hC => ?_, hK _ h⟩
  obtain ⟨p, rfl⟩ := hC
  have hr := run_loadAt_mid (P := P) («Sort».grow (redrawn w0 p.d) p.os) g 0 ty cs.toList d (hk.regrown p.d p.os).range hu hd (by simpa using hi)
  unfold Oper.quietAt execOp
  simp only [ho, hx, Sem.run_bind, hr, Result.andThen_ok, Sem.run_pure]
  exact ⟨rfl, by simp⟩
def LawI (cl : List Ob) (B2 p2 b2 ne : Nat) (wC : World) (G : List (List UInt8)) (W : World) : Prop :=
  ∃ cl' evs', S8 B2 W p2 b2 200 evs' cl' ∧ EvR cl cl' G ∧ evs'.length = ne + G.length ∧ Below B2 wC W
set_option maxHeartbeats 8000000 in
set_option maxRecDepth 100000 in
theorem budgetMay_any (w : World) (A : Option Addr) (c : Nat) (l : List Ob) (hA : Sl w 47 (.slice A l.length c) l.length (l.flatMap Ob.cells)) (hok : ∀ x ∈ l, x.Ok w) (hlen : l.length ≤ maxLen) (k v : Int) (pc : Bool)
    (PA : Option Addr) (pcap : Nat) (names : List (List UInt8)) (hP : Sl w 1 (.slice PA names.length pcap) names.length (names.map encStr)) (hps : ∀ s ∈ names, s.length ≤ maxLen) :
    Calls Tryz.prog 3 #[.slice A l.length c, .agg #[.int .i64 k, .int .i64 v, .bool pc], .slice PA names.length pcap] w fun e w' => e = .returned (.bool true) ∧ Below w.heap.size w w' := by
  have HL := Lib.hid (And.intro hA (And.intro hok (And.intro hlen (And.intro hP hps))))
  clear hA hok hlen hP hps
  go_enter Tryz.func3, Tryz.ntmps3
  go_wp2_with fail
  obtain ⟨W0, hW0⟩ : ∃ W0, W0 = w.alloc (.cells #[.int .i64 k, .int .i64 v, .bool pc] 24) := ⟨_, rfl⟩
  have kb0 := Bk.new w 24 #[.int .i64 k, .int .i64 v, .bool pc]
  have B0 := below_al w (.cells #[.int .i64 k, .int .i64 v, .bool pc] 24)
  rw [← hW0] at kb0 B0 ⊢
  have z0 : W0.heap.size = w.heap.size + 1 := by rw [hW0]; simp
  have H0 := Lib.hid (And.intro kb0 (And.intro B0 z0))
  clear hW0 kb0 B0 z0
  refine (stocked_any W0 A c l (HL.out.1.below H0.out.2.1) (fun x hx => (HL.out.2.1 x hx).below H0.out.2.1) HL.out.2.2.1).mono ?_
  rintro e W1 ⟨hS, b1⟩
  have H1 := Lib.hid (And.intro (H0.out.1.below' b1) (below_tr H0.out.2.1 b1))
  clear b1
  rcases hS with rfl | ⟨p, b, evs, cl, rfl, hM, hev⟩
  · go_wp2_with fail
    refine (lives32_any W1).mono ?_
    rintro e W2 ⟨rfl, b2⟩
    have H2 := Lib.hid (below_tr H1.out.2 b2)
    clear b2
    go_wp2_with fail
    refine (lives32_any W2).mono ?_
    rintro e W3 ⟨rfl, b3⟩
    have H3 := Lib.hid (below_tr H2.out b3)
    clear b3
    go_wp2_with fail
    go_ret
    exact ⟨rfl, H3.out⟩
  · have HM := Lib.hid (And.intro hM hev)
    clear hM hev
    go_wp2_with fail
    refine (lives32_any W1).mono ?_
    rintro e W2 ⟨rfl, b2⟩
    have H2 := Lib.hid (And.intro (H1.out.1.below' b2) (And.intro (below_tr H1.out.2 b2) (HM.out.1.below b2)))
    clear b2
    by_cases hlong : 20 < names.length
    · have hl1 : (20 : Int) < names.length := by omega
      go_wp2_with fail
      refine (lives32_any W2).mono ?_
      rintro e W3 ⟨rfl, b3⟩
      have H3 := Lib.hid (below_tr H2.out.2.1 b3)
      clear b3
      go_wp2_with fail
      go_ret
      exact ⟨rfl, H3.out⟩
    · have hl1 : ¬ (20 : Int) < names.length := by omega
      cases hb : okB k v pc with
      | false =>
        have CR := Lib.hid (fun w1 => bright_f k v pc w1 hb)
        have CB := Lib.hid (may_bad k v pc hb p PA names.length pcap W2)
        clear hb
        go_wp2_with ((with_reducible refine at_load_ ?_); refine wpl_loadg H2.out.1 rfl 24 (.tmp 4) rfl rfl _ Tryz.underlying24 rfl (by kernel_rfl) ?_)
        refine CB.out.mono ?_
        rintro e W3 ⟨rfl, b3⟩
        have H3 := Lib.hid (And.intro (H2.out.1.below' b3) (below_tr H2.out.2.1 b3))
        clear b3
        go_wp2_with ((with_reducible refine at_load_ ?_); refine wpl_loadg H3.out.1 rfl 24 (.tmp 4) rfl rfl _ Tryz.underlying24 rfl (by kernel_rfl) ?_)
        refine (may_nil k v pc PA names.length pcap W3).mono ?_
        rintro e W4 ⟨rfl, b4⟩
        have H4 := Lib.hid (And.intro (H3.out.1.below' b4) (below_tr H3.out.2 b4))
        clear b4
        go_wp2_with ((with_reducible refine at_load_ ?_); refine wpl_loadg H4.out.1 rfl 24 (.tmp 4) rfl rfl _ Tryz.underlying24 rfl (by kernel_rfl) ?_)
        refine (CR.out _).mono ?_
        rintro e W5 ⟨rfl, b5⟩
        have H5 := Lib.hid (below_tr H4.out.2 b5)
        clear b5
        go_wp2_with fail
        go_ret
        exact ⟨rfl, H5.out⟩
      | true =>
        obtain ⟨q1, _, q3, _, _⟩ := okB_t hb
        obtain ⟨k, rfl⟩ := Int.eq_ofNat_of_zero_le q1
        obtain ⟨v, rfl⟩ := Int.eq_ofNat_of_zero_le q3
        have hcl : cl.length ≤ 60 := by
          obtain ⟨_, _, _, _, _, _, _, hcl, _⟩ := HM.out.1
          have := HM.out.2
          omega
        have CR := Lib.hid (fun w1 => bright_t k v pc w1 hb)
        have CB := Lib.hid (may_any H2.out.2.2 (by omega) k v pc hb PA pcap names (HL.out.2.2.2.1.below H2.out.2.1) (by omega) HL.out.2.2.2.2)
        have HB := Lib.hid (And.intro hb hcl)
        clear hb hcl q1 q3
        go_wp2_with ((with_reducible refine at_load_ ?_); refine wpl_loadg H2.out.1 rfl 24 (.tmp 4) rfl rfl _ Tryz.underlying24 rfl (by kernel_rfl) ?_)
        refine CB.out.mono ?_
        rintro e W3 ⟨gA, gc, rfl, hSl, b3⟩
        have H3 := Lib.hid (And.intro (H2.out.1.below' b3) (And.intro (below_tr H2.out.2.1 b3) (H2.out.2.2.below b3)))
        clear b3
        go_wp2_with ((with_reducible refine at_load_ ?_); refine wpl_loadg H3.out.1 rfl 24 (.tmp 4) rfl rfl _ Tryz.underlying24 rfl (by kernel_rfl) ?_)
        refine (may_nil k v pc PA names.length pcap W3).mono ?_
        rintro e W4 ⟨rfl, b4⟩
        have H4 := Lib.hid (And.intro (H3.out.1.below' b4) (And.intro (below_tr H3.out.2.1 b4) (H3.out.2.2.below b4)))
        have hSl4 := Lib.hid (hSl.below b4)
        clear b4 hSl
        go_wp2_with ((with_reducible refine at_load_ ?_); refine wpl_loadg H4.out.1 rfl 24 (.tmp 4) rfl rfl _ Tryz.underlying24 rfl (by kernel_rfl) ?_)
        refine (CR.out _).mono ?_
        rintro e W5 ⟨rfl, b5⟩
        have H5 := Lib.hid (And.intro (H4.out.1.below' b5) (And.intro (below_tr H4.out.2.1 b5) (H4.out.2.2.below b5)))
        have hSl5 := Lib.hid (hSl4.out.below b5)
        clear b5
        go_wp2_with fail
        refine (s8_copy H5.out.2.2 (by have := HM.out.2; omega)).mono ?_
        rintro e W6 ⟨p2, b2, rfl, hM6, b6⟩
        obtain ⟨GL, hGL⟩ : ∃ GL, GL = goL cl (mustN k v pc) [] names := ⟨_, rfl⟩
        have hw5 : w.heap.size < W5.heap.size := H5.out.1.lt
        obtain ⟨B2, hB2⟩ : ∃ B2, B2 = W5.heap.size := ⟨_, rfl⟩
        have H6 := Lib.hid (And.intro b6 (And.intro hw5 hB2))
        rw [← hB2] at hM6
        rw [← hGL] at hSl5 ⊢
        have HGL := Lib.hid hGL
        have hu : (keys cl).Nodup := by
          obtain ⟨_, _, _, _, R, _⟩ := HM.out.1
          exact R.uniq
        have HU := Lib.hid hu
        have h0 : Hid (LawI cl B2 p2 b2 evs.length W6 (goL cl (mustN k v pc) [] (names.take 0)) W6) := ⟨cl, evs, hM6, EvR.refl cl, rfl, Below.refl _ _⟩
        clear b6 hM6 hGL hw5 hB2 CR CB hu
        go_wp2_with fail
        go_loopw [13, 65] (fun v13 vi W => ∃ j : Nat, j ≤ names.length ∧ vi = .int .i64 j ∧ v13 = .int .i64 ((goL cl (mustN k v pc) [] (names.take j)).length : Nat) ∧ Hid (LawI cl B2 p2 b2 evs.length W6 (goL cl (mustN k v pc) [] (names.take j)) W)) (fun _ vi _ => names.length - (intOf vi).toNat)
        case atStart => exact ⟨0, Nat.zero_le _, rfl, rfl, h0⟩
        case round =>
          clear h0
          obtain ⟨j, hj, rfl, rfl, hJ⟩ := hrel
          obtain ⟨G, hG⟩ : ∃ G, G = goL cl (mustN k v pc) [] (names.take j) := ⟨_, rfl⟩
          rw [← hG] at hJ ⊢
          obtain ⟨cl', evs', hM', hE, hne, hBw⟩ := hJ.out
          have hGl : G.length ≤ 20 := by
            rw [hG]
            have h1 := goL_len (cl := cl) (mu := mustN k v pc) (names.take j) []
            rw [List.length_take] at h1
            simp only [List.length_nil] at h1
            omega
          have hB5r : Below W5.heap.size W5 wr := by
            have h := H6.out.1
            have h2 := hBw
            rw [H6.out.2.2] at h2
            exact h.trans h2
          have hkb := H5.out.1.below' hB5r
          have hPr := HL.out.2.2.2.1.below (below_tr H5.out.2.1 hB5r)
          have hSr := hSl5.out.below hB5r
          have hBr : B2 ≤ wr.heap.size := by rw [H6.out.2.2]; exact hB5r.size
          by_cases hlt : j < names.length
          · obtain ⟨s, hs⟩ : ∃ s, names[j]? = some s := ⟨_, List.getElem?_eq_getElem hlt⟩
            obtain ⟨ad, rfl, hadl, hc⟩ := hPr.cell1 (k := j) (u := .string ⟨s.toArray⟩) (by rw [List.getElem?_map, hs]; rfl)
            have hsl : s.length ≤ maxLen := HL.out.2.2.2.2 s (List.mem_of_getElem? hs)
            have hnext := goL_take (cl := cl) (mu := mustN k v pc) hs []
            rw [← hG] at hnext
            have hkn : KeyOk (1, (⟨s.toArray⟩ : ByteArray)) := ⟨rfl, hsl⟩
            have CG := Lib.hid (s8_get hM' 1 ⟨s.toArray⟩ hkn)
            have hpre := goL_prefix (cl := cl) (mu := mustN k v pc) names (j + 1) []
            rw [← HGL.out] at hpre
            have HJ9 := Lib.hid (And.intro hM' (And.intro hE (And.intro hne (And.intro hBw (And.intro hnext (And.intro hkn (And.intro hpre (And.intro hkb (And.intro hSr (And.intro hBr (And.intro hB5r hGl)))))))))))
            clear hM' hE hne hBw hnext hkn hpre hkb hSr hBr hB5r hG hJ hs hsl hadl hPr
            go_wp2_with fail
            refine CG.out.mono ?_
            rintro e W1' ⟨y, rfl, hys, b1, hy0, hy1⟩
            have hko : KeyOk (0, y.p.owner) := ⟨rfl, Nat.le_trans hys.1.p.owner reach_max⟩
            have HKO := Lib.hid hko
            clear hko
            have h47' := cells_is y hys.1
            obtain ⟨L, hL⟩ : ∃ L : Array Value, L = y.cells.toArray := ⟨_, rfl⟩
            rw [← hL] at h47' ⊢
            have h47 := Lib.hid h47'
            have hzz : Z47.size = L.size := h47'.1.symm
            have kz := Bk.new W1' 56 Z47
            have k7 := setCells_whole kz hzz
            have b7 : Below W1'.heap.size W1' ((W1'.alloc (.cells Z47 56)).setCells W1'.heap.size 0 L.toList) := below_setCells (g := W1'.heap.size) L.toList 0 (below_al W1' _) (Nat.le_refl _)
            obtain ⟨W2', hW2⟩ : ∃ W2', W2' = (W1'.alloc (.cells Z47 56)).setCells W1'.heap.size 0 L.toList := ⟨_, rfl⟩
            rw [← hW2] at b7 k7
            have HKZ := Lib.hid (And.intro kz hzz)
            rw [hL] at k7
            have hb12 := below_tr b1 b7
            have HK2 := Lib.hid (And.intro k7 (And.intro hb12 hy1))
            have HW2 := Lib.hid hW2.symm
            have CG2 := Lib.hid (s8_get (HJ9.out.1.below hb12) 0 y.p.owner HKO.out)
            have e10 : W2'.cell? ⟨W1'.heap.size, 10, none⟩ = some (.string y.p.owner) := k7.cell 10
            obtain ⟨th, hth⟩ : ∃ th, th = (findN 1 ⟨s.toArray⟩ cl').isSome := ⟨_, rfl⟩
            rw [← hth]
            have HTH := Lib.hid hth
            clear hth
            clear k7 b1 b7 hys hy0 hy1 hW2 CG hL h47' kz hzz hb12
            go_wp2_with (first | ((with_reducible refine at_alloc_ ?_); refine wpl_allocg rfl (run_alloc47 rfl _) ?_) | ((with_reducible refine at_store_ ?_); refine wpl_storeg HKZ.out.1 HKZ.out.2 rfl rfl 56 (.tmp 16) (.tmp 73) rfl rfl rfl (info47 h47.out) h47.out.2 ?_; rw [HW2.out]))
            refine CG2.out.mono ?_
            rintro e W3' ⟨y2, rfl, hys2, b3, hz0, hz1⟩
            have g47' := cells_is y2 hys2.1
            obtain ⟨L2, hL2⟩ : ∃ L : Array Value, L = y2.cells.toArray := ⟨_, rfl⟩
            rw [← hL2] at g47' ⊢
            have g47 := Lib.hid g47'
            have hz2 : Z47.size = L2.size := g47'.1.symm
            have kz2 := Bk.new W3' 56 Z47
            have k72 := setCells_whole kz2 hz2
            have b4 : Below W3'.heap.size W3' ((W3'.alloc (.cells Z47 56)).setCells W3'.heap.size 0 L2.toList) := below_setCells (g := W3'.heap.size) L2.toList 0 (below_al W3' _) (Nat.le_refl _)
            obtain ⟨W4', hW4⟩ : ∃ W4', W4' = (W3'.alloc (.cells Z47 56)).setCells W3'.heap.size 0 L2.toList := ⟨_, rfl⟩
            rw [← hW4] at b4 k72
            rw [hL2] at k72
            have HKZ2 := Lib.hid (And.intro kz2 hz2)
            have b24 := below_tr b3 b4
            have HW4 := Lib.hid hW4.symm
            obtain ⟨ph, hph⟩ : ∃ ph, ph = y.p.phase := ⟨_, rfl⟩
            have e12 : W4'.cell? ⟨W1'.heap.size, 12, none⟩ = some (.int .i64 ph) := by rw [hph]; exact keep_cell b24 (HK2.out.1.cell 12)
            obtain ⟨own, how⟩ : ∃ own, own = (findN 0 y.p.owner cl').isSome := ⟨_, rfl⟩
            rw [← how]
            have br4 := below_tr HK2.out.2.1 b24
            have hM4 := HJ9.out.1.below br4
            have H9 := Lib.hid (And.intro hM4 (And.intro br4 (And.intro k72 (And.intro hz1 (And.intro HTH.out (And.intro how (And.intro hph (HJ9.out.2.2.2.2.2.2.2.1.below' br4))))))))
            have z12 := cell_regrown e12
            clear b3 hz0 hz1 hys2 kz2 hz2 b4 hW4 g47' hL2 b24 k72 CG2 e10 how hph br4 hM4
            have SK := Lib.hid (fun (W9 : World) (hb9 : Below W4'.heap.size W4' W9) (hT : takes cl (mustN k v pc) G s = false) => (show goL cl (mustN k v pc) [] (names.take (j + 1)) = G ∧ LawI cl B2 p2 b2 evs.length W6 (goL cl (mustN k v pc) [] (names.take (j + 1))) W9 by
              have e : goL cl (mustN k v pc) [] (names.take (j + 1)) = G := by rw [HJ9.out.2.2.2.2.1, hT]; rfl
              refine ⟨e, ?_⟩
              rw [e]
              exact ⟨cl', evs', H9.out.1.below hb9, HJ9.out.2.1, HJ9.out.2.2.1, HJ9.out.2.2.2.1.trans ((below_tr H9.out.2.1 hb9).mono HJ9.out.2.2.2.2.2.2.2.2.2.1)⟩))
            have HY := Lib.hid (fun (i : Nat) (hf : findN 1 ⟨s.toArray⟩ cl' = some i) (hi : i < cl'.length) => (show cl'[i].p.phase = ph ∧ cl'[i].p.owner = y.p.owner by
              obtain ⟨_, hn⟩ := HK2.out.2.2 i hf
              have hnp : (nf y).p = (nf cl'[i]).p := by rw [hn]
              have e1 : y.p.phase = cl'[i].p.phase := (congrArg Pd.phase hnp : (nf y).p.phase = (nf cl'[i]).p.phase)
              have e2 : y.p.owner = cl'[i].p.owner := (congrArg Pd.owner hnp : (nf y).p.owner = (nf cl'[i]).p.owner)
              exact ⟨by rw [← e1]; exact H9.out.2.2.2.2.2.2.1.symm, e2.symm⟩))
            cases th with
            | false =>
              go_wp2_with (first | ((with_reducible refine at_alloc_ ?_); refine wpl_allocg rfl (run_alloc47 rfl _) ?_) | ((with_reducible refine at_store_ ?_); refine wpl_storeg HKZ2.out.1 HKZ2.out.2 rfl rfl 56 (.tmp 18) (.tmp 81) rfl rfl rfl (info47 g47.out) g47.out.2 ?_; rw [HW4.out]))
              refine wp_region_quiet_below (by kernel_rfl) (by kernel_rfl) ?_
              repeat (go_big_quiet_step (fail))
              refine wpQuiet_nil ?_
              rintro _ ⟨rp, rfl⟩
              have hBz := below_regrown W4' rp.d rp.os
              generalize «Sort».grow (redrawn W4' rp.d) rp.os = W5' at hBz ⊢
              clear z12
              have HNO : Hid (∀ i (hi : i < cl'.length), findN 1 ⟨s.toArray⟩ cl' = some i → ∀ i2 (hi2 : i2 < cl'.length), cl'[i].p.phase = 2 → findN 0 cl'[i].p.owner cl' = some i2 → mustN k v pc cl'[i2].w.replicas.toNat < rdy cl' cl'[i].p.owner) := Lib.hid (fun i hi hf => by
                have h := H9.out.2.2.2.2.1
                rw [hf] at h
                cases h)
              have brz := below_tr H9.out.2.1 hBz
              have CE := Lib.hid (evict_any (H9.out.1.below hBz) (by have h1 := HJ9.out.2.2.1; have h2 := HJ9.out.2.2.2.2.2.2.2.2.2.2.2; have h3 := HM.out.2; omega) (Nat.le_trans HJ9.out.2.2.2.2.2.2.2.2.2.1 brz.size) ⟨s.toArray⟩ HJ9.out.2.2.2.2.2.1 0 ⟨by omega, by omega⟩)
              have HZ := Lib.hid (And.intro hBz brz)
              clear hBz brz e12
              go_wp2_with fail
              refine CE.out.mono ?_
              rintro e W6' hEv
              rcases hEv with ⟨hf9, rfl, b6⟩ | ⟨i, hi, hf9, hp9, rfl, b6⟩ | ⟨i, hi, hf9, hp9, rfl, evs9, y9, he9, hM9, hy9, b9, _⟩
              · obtain ⟨eG, hI⟩ := SK.out W6' (below_tr HZ.out.1 b6) (law_no1 HJ9.out.2.1 hf9)
                have HE := Lib.hid hI
                have HG := Lib.hid eG
                clear hI eG hf9 b6
                go_wp2_with fail
                exact ⟨⟨j + 1, by omega, by go_num, by rw [HG.out], HE⟩, by simp [intOf]; omega⟩
              · obtain ⟨eG, hI⟩ := SK.out W6' (below_tr HZ.out.1 b6) (law_no2 HJ9.out.2.1 hf9 hi hp9)
                have HE := Lib.hid hI
                have HG := Lib.hid eG
                clear hI eG hf9 hp9 b6
                go_wp2_with fail
                exact ⟨⟨j + 1, by omega, by go_num, by rw [HG.out], HE⟩, by simp [intOf]; omega⟩
              · have hT := law_yes (mu := mustN k v pc) HJ9.out.2.1 HU.out hf9 hi hp9 (HNO.out i hi hf9)
                have eG : goL cl (mustN k v pc) [] (names.take (j + 1)) = G ++ [s] := by rw [HJ9.out.2.2.2.2.1, hT]; rfl
                obtain ⟨hi2, hi3, hob3, hk9, hn9, hga3, hgs3⟩ := ev_pod HJ9.out.2.1 hf9
                have hB9 : Below B2 W6 W6' := (HJ9.out.2.2.2.1.trans (HZ.out.2.mono HJ9.out.2.2.2.2.2.2.2.2.2.1)).trans b9
                have HE : Hid (LawI cl B2 p2 b2 evs.length W6 (goL cl (mustN k v pc) [] (names.take (j + 1))) W6') := by
                  rw [eG]
                  exact Lib.hid ⟨cl'.set i y9, evs9, hM9, HJ9.out.2.1.one HU.out hi2 hk9 hn9 hy9, by rw [he9, HJ9.out.2.2.1, List.length_append]; rfl, hB9⟩
                have hB59 : Below W5.heap.size W5 W6' := by
                  have h := H6.out.1
                  rw [H6.out.2.2] at hB9
                  exact h.trans hB9
                obtain ⟨r, hr⟩ := HJ9.out.2.2.2.2.2.2.1
                rw [eG] at hr
                have hlt9 : G.length < GL.length := by rw [hr]; simp
                have hge : ¬ (GL.length : Int) ≤ (G.length : Int) := by omega
                have hge2 : ¬ GL.length ≤ G.length := by omega
                have hget : GL[G.length]? = some s := by rw [hr]; simp
                obtain ⟨ad2, rfl, hadl2, hc2⟩ := (hSl5.out.below hB59).cell1 (k := G.length) (u := .string ⟨s.toArray⟩) (by rw [List.getElem?_map, hget]; rfl)
                have HG := Lib.hid eG
                have hg20 : G.length ≤ 20 := HJ9.out.2.2.2.2.2.2.2.2.2.2.2
                clear hgs3 hga3 hob3 hi3 hT eG hk9 hn9 hi2 hB9 hB59 hr hget he9 hM9 hy9 b9 hf9 hp9 hi hadl2
                go_wp2_with fail
                exact ⟨⟨j + 1, by omega, by go_num, by rw [HG.out, List.length_append, List.length_singleton]; go_num, HE⟩, by simp [intOf]; omega⟩
            | true =>
              cases own with
              | false =>
                go_wp2_with (first | ((with_reducible refine at_alloc_ ?_); refine wpl_allocg rfl (run_alloc47 rfl _) ?_) | ((with_reducible refine at_store_ ?_); refine wpl_storeg HKZ2.out.1 HKZ2.out.2 rfl rfl 56 (.tmp 18) (.tmp 81) rfl rfl rfl (info47 g47.out) g47.out.2 ?_; rw [HW4.out]))
                refine wp_region_quiet_below (by kernel_rfl) (by kernel_rfl) ?_
                repeat (go_big_quiet_step (fail))
                refine wpQuiet_nil ?_
                rintro _ ⟨rp, rfl⟩
                have hBz := below_regrown W4' rp.d rp.os
                generalize «Sort».grow (redrawn W4' rp.d) rp.os = W5' at hBz ⊢
                clear z12
                have HNO : Hid (∀ i (hi : i < cl'.length), findN 1 ⟨s.toArray⟩ cl' = some i → ∀ i2 (hi2 : i2 < cl'.length), cl'[i].p.phase = 2 → findN 0 cl'[i].p.owner cl' = some i2 → mustN k v pc cl'[i2].w.replicas.toNat < rdy cl' cl'[i].p.owner) := Lib.hid (fun i hi hf i2 hi2 hp hw => by
                  have h := H9.out.2.2.2.2.2.1
                  rw [(HY.out i hf hi).2] at hw
                  rw [hw] at h
                  cases h)
                have brz := below_tr H9.out.2.1 hBz
                have CE := Lib.hid (evict_any (H9.out.1.below hBz) (by have h1 := HJ9.out.2.2.1; have h2 := HJ9.out.2.2.2.2.2.2.2.2.2.2.2; have h3 := HM.out.2; omega) (Nat.le_trans HJ9.out.2.2.2.2.2.2.2.2.2.1 brz.size) ⟨s.toArray⟩ HJ9.out.2.2.2.2.2.1 0 ⟨by omega, by omega⟩)
                have HZ := Lib.hid (And.intro hBz brz)
                clear hBz brz e12
                go_wp2_with fail
                refine CE.out.mono ?_
                rintro e W6' hEv
                rcases hEv with ⟨hf9, rfl, b6⟩ | ⟨i, hi, hf9, hp9, rfl, b6⟩ | ⟨i, hi, hf9, hp9, rfl, evs9, y9, he9, hM9, hy9, b9, _⟩
                · obtain ⟨eG, hI⟩ := SK.out W6' (below_tr HZ.out.1 b6) (law_no1 HJ9.out.2.1 hf9)
                  have HE := Lib.hid hI
                  have HG := Lib.hid eG
                  clear hI eG hf9 b6
                  go_wp2_with fail
                  exact ⟨⟨j + 1, by omega, by go_num, by rw [HG.out], HE⟩, by simp [intOf]; omega⟩
                · obtain ⟨eG, hI⟩ := SK.out W6' (below_tr HZ.out.1 b6) (law_no2 HJ9.out.2.1 hf9 hi hp9)
                  have HE := Lib.hid hI
                  have HG := Lib.hid eG
                  clear hI eG hf9 hp9 b6
                  go_wp2_with fail
                  exact ⟨⟨j + 1, by omega, by go_num, by rw [HG.out], HE⟩, by simp [intOf]; omega⟩
                · have hT := law_yes (mu := mustN k v pc) HJ9.out.2.1 HU.out hf9 hi hp9 (HNO.out i hi hf9)
                  have eG : goL cl (mustN k v pc) [] (names.take (j + 1)) = G ++ [s] := by rw [HJ9.out.2.2.2.2.1, hT]; rfl
                  obtain ⟨hi2, hi3, hob3, hk9, hn9, hga3, hgs3⟩ := ev_pod HJ9.out.2.1 hf9
                  have hB9 : Below B2 W6 W6' := (HJ9.out.2.2.2.1.trans (HZ.out.2.mono HJ9.out.2.2.2.2.2.2.2.2.2.1)).trans b9
                  have HE : Hid (LawI cl B2 p2 b2 evs.length W6 (goL cl (mustN k v pc) [] (names.take (j + 1))) W6') := by
                    rw [eG]
                    exact Lib.hid ⟨cl'.set i y9, evs9, hM9, HJ9.out.2.1.one HU.out hi2 hk9 hn9 hy9, by rw [he9, HJ9.out.2.2.1, List.length_append]; rfl, hB9⟩
                  have hB59 : Below W5.heap.size W5 W6' := by
                    have h := H6.out.1
                    rw [H6.out.2.2] at hB9
                    exact h.trans hB9
                  obtain ⟨r, hr⟩ := HJ9.out.2.2.2.2.2.2.1
                  rw [eG] at hr
                  have hlt9 : G.length < GL.length := by rw [hr]; simp
                  have hge : ¬ (GL.length : Int) ≤ (G.length : Int) := by omega
                  have hge2 : ¬ GL.length ≤ G.length := by omega
                  have hget : GL[G.length]? = some s := by rw [hr]; simp
                  obtain ⟨ad2, rfl, hadl2, hc2⟩ := (hSl5.out.below hB59).cell1 (k := G.length) (u := .string ⟨s.toArray⟩) (by rw [List.getElem?_map, hget]; rfl)
                  have HG := Lib.hid eG
                  have hg20 : G.length ≤ 20 := HJ9.out.2.2.2.2.2.2.2.2.2.2.2
                  clear hgs3 hga3 hob3 hi3 hT eG hk9 hn9 hi2 hB9 hB59 hr hget he9 hM9 hy9 b9 hf9 hp9 hi hadl2
                  go_wp2_with fail
                  exact ⟨⟨j + 1, by omega, by go_num, by rw [HG.out, List.length_append, List.length_singleton]; go_num, HE⟩, by simp [intOf]; omega⟩
              | true =>
                cases hp2 : ph == 2 with
                | false =>
                  go_wp2_with (first | ((with_reducible refine at_alloc_ ?_); refine wpl_allocg rfl (run_alloc47 rfl _) ?_) | ((with_reducible refine at_store_ ?_); refine wpl_storeg HKZ2.out.1 HKZ2.out.2 rfl rfl 56 (.tmp 18) (.tmp 81) rfl rfl rfl (info47 g47.out) g47.out.2 ?_; rw [HW4.out]))
                  refine wp_region_quiet_below (by kernel_rfl) (by kernel_rfl) ?_
                  repeat (go_big_quiet_step (fail))
                  refine wpQuiet_nil ?_
                  rintro _ ⟨rp, rfl⟩
                  have hBz := below_regrown W4' rp.d rp.os
                  generalize «Sort».grow (redrawn W4' rp.d) rp.os = W5' at hBz ⊢
                  clear z12
                  have HNO : Hid (∀ i (hi : i < cl'.length), findN 1 ⟨s.toArray⟩ cl' = some i → ∀ i2 (hi2 : i2 < cl'.length), cl'[i].p.phase = 2 → findN 0 cl'[i].p.owner cl' = some i2 → mustN k v pc cl'[i2].w.replicas.toNat < rdy cl' cl'[i].p.owner) := Lib.hid (fun i hi hf i2 hi2 hp hw => by
                    rw [(HY.out i hf hi).1] at hp
                    rw [hp] at hp2
                    cases hp2)
                  have brz := below_tr H9.out.2.1 hBz
                  have CE := Lib.hid (evict_any (H9.out.1.below hBz) (by have h1 := HJ9.out.2.2.1; have h2 := HJ9.out.2.2.2.2.2.2.2.2.2.2.2; have h3 := HM.out.2; omega) (Nat.le_trans HJ9.out.2.2.2.2.2.2.2.2.2.1 brz.size) ⟨s.toArray⟩ HJ9.out.2.2.2.2.2.1 0 ⟨by omega, by omega⟩)
                  have HZ := Lib.hid (And.intro hBz brz)
                  clear hBz brz e12
                  go_wp2_with fail
                  refine CE.out.mono ?_
                  rintro e W6' hEv
                  rcases hEv with ⟨hf9, rfl, b6⟩ | ⟨i, hi, hf9, hp9, rfl, b6⟩ | ⟨i, hi, hf9, hp9, rfl, evs9, y9, he9, hM9, hy9, b9, _⟩
                  · obtain ⟨eG, hI⟩ := SK.out W6' (below_tr HZ.out.1 b6) (law_no1 HJ9.out.2.1 hf9)
                    have HE := Lib.hid hI
                    have HG := Lib.hid eG
                    clear hI eG hf9 b6
                    go_wp2_with fail
                    exact ⟨⟨j + 1, by omega, by go_num, by rw [HG.out], HE⟩, by simp [intOf]; omega⟩
                  · obtain ⟨eG, hI⟩ := SK.out W6' (below_tr HZ.out.1 b6) (law_no2 HJ9.out.2.1 hf9 hi hp9)
                    have HE := Lib.hid hI
                    have HG := Lib.hid eG
                    clear hI eG hf9 hp9 b6
                    go_wp2_with fail
                    exact ⟨⟨j + 1, by omega, by go_num, by rw [HG.out], HE⟩, by simp [intOf]; omega⟩
                  · have hT := law_yes (mu := mustN k v pc) HJ9.out.2.1 HU.out hf9 hi hp9 (HNO.out i hi hf9)
                    have eG : goL cl (mustN k v pc) [] (names.take (j + 1)) = G ++ [s] := by rw [HJ9.out.2.2.2.2.1, hT]; rfl
                    obtain ⟨hi2, hi3, hob3, hk9, hn9, hga3, hgs3⟩ := ev_pod HJ9.out.2.1 hf9
                    have hB9 : Below B2 W6 W6' := (HJ9.out.2.2.2.1.trans (HZ.out.2.mono HJ9.out.2.2.2.2.2.2.2.2.2.1)).trans b9
                    have HE : Hid (LawI cl B2 p2 b2 evs.length W6 (goL cl (mustN k v pc) [] (names.take (j + 1))) W6') := by
                      rw [eG]
                      exact Lib.hid ⟨cl'.set i y9, evs9, hM9, HJ9.out.2.1.one HU.out hi2 hk9 hn9 hy9, by rw [he9, HJ9.out.2.2.1, List.length_append]; rfl, hB9⟩
                    have hB59 : Below W5.heap.size W5 W6' := by
                      have h := H6.out.1
                      rw [H6.out.2.2] at hB9
                      exact h.trans hB9
                    obtain ⟨r, hr⟩ := HJ9.out.2.2.2.2.2.2.1
                    rw [eG] at hr
                    have hlt9 : G.length < GL.length := by rw [hr]; simp
                    have hge : ¬ (GL.length : Int) ≤ (G.length : Int) := by omega
                    have hge2 : ¬ GL.length ≤ G.length := by omega
                    have hget : GL[G.length]? = some s := by rw [hr]; simp
                    obtain ⟨ad2, rfl, hadl2, hc2⟩ := (hSl5.out.below hB59).cell1 (k := G.length) (u := .string ⟨s.toArray⟩) (by rw [List.getElem?_map, hget]; rfl)
                    have HG := Lib.hid eG
                    have hg20 : G.length ≤ 20 := HJ9.out.2.2.2.2.2.2.2.2.2.2.2
                    clear hgs3 hga3 hob3 hi3 hT eG hk9 hn9 hi2 hB9 hB59 hr hget he9 hM9 hy9 b9 hf9 hp9 hi hadl2
                    go_wp2_with fail
                    exact ⟨⟨j + 1, by omega, by go_num, by rw [HG.out, List.length_append, List.length_singleton]; go_num, HE⟩, by simp [intOf]; omega⟩
                | true =>
                  obtain ⟨i, hf1⟩ : ∃ i, findN 1 ⟨s.toArray⟩ cl' = some i := by
                    have h := H9.out.2.2.2.2.1
                    cases hf : findN 1 ⟨s.toArray⟩ cl' with
                    | none =>
                      rw [hf] at h
                      cases h
                    | some i => exact ⟨i, rfl⟩
                  obtain ⟨i2, hf2⟩ : ∃ i2, findN 0 y.p.owner cl' = some i2 := by
                    have h := H9.out.2.2.2.2.2.1
                    cases hf : findN 0 y.p.owner cl' with
                    | none =>
                      rw [hf] at h
                      cases h
                    | some i => exact ⟨i, rfl⟩
                  obtain ⟨_, hi1, _⟩ := ev_pod HJ9.out.2.1 hf1
                  obtain ⟨_, hi2, _, _, hk2, hn2⟩ := ev_wl HJ9.out.2.1 hf2
                  obtain ⟨_, hnf2⟩ := H9.out.2.2.2.1 i2 hf2
                  have hnm : y2.name = y.p.owner := by rw [(nf_key hnf2).2, hn2]
                  have hrw : y2.w.replicas = cl'[i2].w.replicas := by
                    have h : (nf y2).w = (nf cl'[i2]).w := by rw [hnf2]
                    exact (congrArg Wl.replicas h : (nf y2).w.replicas = (nf cl'[i2]).w.replicas)
                  have hRk : okR cl'[i2].w.replicas = true := wl_may hk2 (by
                    obtain ⟨_, _, _, _, _, _, _, _, hg⟩ := H9.out.1
                    exact hg _ (List.getElem_mem _))
                  obtain ⟨R, hR⟩ : ∃ R : Nat, R = cl'[i2].w.replicas.toNat := ⟨_, rfl⟩
                  have hRe : cl'[i2].w.replicas = (R : Int) := by
                    have := okR_t hRk
                    omega
                  have hRk' : okR (R : Int) = true := by rw [← hRe]; exact hRk
                  have e1 : W4'.cell? ⟨W3'.heap.size, 1, none⟩ = some (.string y.p.owner) := by rw [← hnm]; exact H9.out.2.2.1.cell 1
                  have e3 : W4'.cell? ⟨W3'.heap.size, 3, none⟩ = some (.int .i64 (R : Int)) := by rw [← hRe, ← hrw]; exact H9.out.2.2.1.cell 3
                  obtain ⟨n, hnn⟩ : ∃ n, n = rdy cl' y.p.owner := ⟨_, rfl⟩
                  obtain ⟨m, hmm⟩ : ∃ m, m = mustN k v pc R := ⟨_, rfl⟩
                  have CRd := Lib.hid (fun (w1 : World) (hb1 : Below W4'.heap.size W4' w1) => lready_any (H9.out.1.below hb1) (by have h1 := HJ9.out.2.1.len; have h2 := HB.out.2; omega) y.p.owner)
                  rw [← hnn] at CRd
                  have CRm := Lib.hid (fun w1 => lawmust_ok k v pc R w1 HB.out.1 hRk')
                  rw [← hmm] at CRm
                  have HC := Lib.hid (And.intro hf1 (And.intro hi1 (And.intro hf2 (And.intro hi2 (And.intro hnn (And.intro hmm hR))))))
                  have z1 := cell_regrown e1
                  have z3 := cell_regrown e3
                  clear hf1 hf2 hk2 hn2 hnf2 hnm hrw hRk hR hRe hRk' hnn hmm e1 e3
                  go_wp2_with (first | ((with_reducible refine at_alloc_ ?_); refine wpl_allocg rfl (run_alloc47 rfl _) ?_) | ((with_reducible refine at_store_ ?_); refine wpl_storeg HKZ2.out.1 HKZ2.out.2 rfl rfl 56 (.tmp 18) (.tmp 81) rfl rfl rfl (info47 g47.out) g47.out.2 ?_; rw [HW4.out]))
                  refine wp_region_quiet_below (by kernel_rfl) (by kernel_rfl) ?_
                  repeat (go_big_quiet_step ((go_at_call 11; (with_reducible exact Calls.regrown_of (CRd.out _ (below_regrown _ _ _))))))
                  refine q_loadgd H9.out.2.2.2.2.2.2.2 rfl 24 (.tmp 4) rfl rfl _ Tryz.underlying24 rfl (by kernel_rfl) ?_
                  repeat (quiet_step ((go_at_call 12; (with_reducible exact Calls.regrown_of (CRm.out _)))))
                  refine wpQuiet_nil ?_
                  rintro _ ⟨rp, rfl⟩
                  have hBz := below_regrown W4' rp.d rp.os
                  generalize «Sort».grow (redrawn W4' rp.d) rp.os = W5' at hBz ⊢
                  clear z12 z1 z3 CRd CRm
                  cases hle : decide (n ≤ m) with
                  | true =>
                    have hnm9 : n ≤ m := of_decide_eq_true hle
                    have hle2 : decide ((n : Int) ≤ (m : Int)) = true := decide_eq_true (by omega)
                    have hle3 : (n : Int) ≤ (m : Int) := by omega
                    have hT : takes cl (mustN k v pc) G s = false := by
                      obtain ⟨hf1, hi1, hf2, hi2, q1, q2, q3⟩ := id HC.out
                      obtain ⟨y1, y3⟩ := HY.out i hf1 hi1
                      refine law_no3 HJ9.out.2.1 HU.out hf1 hi1 (y1.trans (by simpa using hp2)) (i2 := i2) (by rw [y3]; exact hf2) hi2 ?_
                      rw [y3, ← q1, ← q3, ← q2]
                      exact hnm9
                    obtain ⟨eG, hI⟩ := SK.out W5' hBz hT
                    have HE := Lib.hid hI
                    have HG := Lib.hid eG
                    clear hI eG hT hBz e12
                    go_wp2_with fail
                    exact ⟨⟨j + 1, by omega, by go_num, by rw [HG.out], HE⟩, by simp [intOf]; omega⟩
                  | false =>
                    have hnm9 : ¬ n ≤ m := of_decide_eq_false hle
                    have hle2 : decide ((n : Int) ≤ (m : Int)) = false := decide_eq_false (by omega)
                    have hle3 : ¬ (n : Int) ≤ (m : Int) := by omega
                    have HNO : Hid (∀ i (hi : i < cl'.length), findN 1 ⟨s.toArray⟩ cl' = some i → ∀ i2 (hi2 : i2 < cl'.length), cl'[i].p.phase = 2 → findN 0 cl'[i].p.owner cl' = some i2 → mustN k v pc cl'[i2].w.replicas.toNat < rdy cl' cl'[i].p.owner) := Lib.hid (fun i' hi hf i2' hi2 hp hw => by
                      rw [HC.out.1] at hf
                      injection hf with hf
                      subst hf
                      rw [(HY.out i HC.out.1 hi).2] at hw ⊢
                      rw [HC.out.2.2.1] at hw
                      injection hw with hw
                      subst hw
                      obtain ⟨_, _, _, _, q1, q2, q3⟩ := id HC.out
                      rw [← q1, ← q3, ← q2]
                      omega)
                    have brz := below_tr H9.out.2.1 hBz
                    have CE := Lib.hid (evict_any (H9.out.1.below hBz) (by have h1 := HJ9.out.2.2.1; have h2 := HJ9.out.2.2.2.2.2.2.2.2.2.2.2; have h3 := HM.out.2; omega) (Nat.le_trans HJ9.out.2.2.2.2.2.2.2.2.2.1 brz.size) ⟨s.toArray⟩ HJ9.out.2.2.2.2.2.1 0 ⟨by omega, by omega⟩)
                    have HZ := Lib.hid (And.intro hBz brz)
                    clear hBz brz e12
                    go_wp2_with fail
                    refine CE.out.mono ?_
                    rintro e W6' hEv
                    rcases hEv with ⟨hf9, rfl, b6⟩ | ⟨i, hi, hf9, hp9, rfl, b6⟩ | ⟨i, hi, hf9, hp9, rfl, evs9, y9, he9, hM9, hy9, b9, _⟩
                    · obtain ⟨eG, hI⟩ := SK.out W6' (below_tr HZ.out.1 b6) (law_no1 HJ9.out.2.1 hf9)
                      have HE := Lib.hid hI
                      have HG := Lib.hid eG
                      clear hI eG hf9 b6
                      go_wp2_with fail
                      exact ⟨⟨j + 1, by omega, by go_num, by rw [HG.out], HE⟩, by simp [intOf]; omega⟩
                    · obtain ⟨eG, hI⟩ := SK.out W6' (below_tr HZ.out.1 b6) (law_no2 HJ9.out.2.1 hf9 hi hp9)
                      have HE := Lib.hid hI
                      have HG := Lib.hid eG
                      clear hI eG hf9 hp9 b6
                      go_wp2_with fail
                      exact ⟨⟨j + 1, by omega, by go_num, by rw [HG.out], HE⟩, by simp [intOf]; omega⟩
                    · have hT := law_yes (mu := mustN k v pc) HJ9.out.2.1 HU.out hf9 hi hp9 (HNO.out i hi hf9)
                      have eG : goL cl (mustN k v pc) [] (names.take (j + 1)) = G ++ [s] := by rw [HJ9.out.2.2.2.2.1, hT]; rfl
                      obtain ⟨hi2, hi3, hob3, hk9, hn9, hga3, hgs3⟩ := ev_pod HJ9.out.2.1 hf9
                      have hB9 : Below B2 W6 W6' := (HJ9.out.2.2.2.1.trans (HZ.out.2.mono HJ9.out.2.2.2.2.2.2.2.2.2.1)).trans b9
                      have HE : Hid (LawI cl B2 p2 b2 evs.length W6 (goL cl (mustN k v pc) [] (names.take (j + 1))) W6') := by
                        rw [eG]
                        exact Lib.hid ⟨cl'.set i y9, evs9, hM9, HJ9.out.2.1.one HU.out hi2 hk9 hn9 hy9, by rw [he9, HJ9.out.2.2.1, List.length_append]; rfl, hB9⟩
                      have hB59 : Below W5.heap.size W5 W6' := by
                        have h := H6.out.1
                        rw [H6.out.2.2] at hB9
                        exact h.trans hB9
                      obtain ⟨r, hr⟩ := HJ9.out.2.2.2.2.2.2.1
                      rw [eG] at hr
                      have hlt9 : G.length < GL.length := by rw [hr]; simp
                      have hge : ¬ (GL.length : Int) ≤ (G.length : Int) := by omega
                      have hge2 : ¬ GL.length ≤ G.length := by omega
                      have hget : GL[G.length]? = some s := by rw [hr]; simp
                      obtain ⟨ad2, rfl, hadl2, hc2⟩ := (hSl5.out.below hB59).cell1 (k := G.length) (u := .string ⟨s.toArray⟩) (by rw [List.getElem?_map, hget]; rfl)
                      have HG := Lib.hid eG
                      have hg20 : G.length ≤ 20 := HJ9.out.2.2.2.2.2.2.2.2.2.2.2
                      clear hgs3 hga3 hob3 hi3 hT eG hk9 hn9 hi2 hB9 hB59 hr hget he9 hM9 hy9 b9 hf9 hp9 hi hadl2
                      go_wp2_with fail
                      exact ⟨⟨j + 1, by omega, by go_num, by rw [HG.out, List.length_append, List.length_singleton]; go_num, HE⟩, by simp [intOf]; omega⟩
          · have hjl : j = names.length := by omega
            subst hjl
            rw [List.take_length, ← HGL.out] at hG
            have HE := Lib.hid (below_tr H5.out.2.1 hB5r)
            clear hM' hE hne hBw hkb hSr hBr hB5r hPr hJ
            rw [hG]
            clear hG
            go_wp2_with fail
            go_ret
            exact ⟨rfl, HE.out⟩
end Go.Proofs.YtcbnmoghjhljbaaGreat
end
section
namespace Go.Proofs.YtcbnmoghjhljbaaGreat
open Go.RowKit Go.Proofs.Mem
set_option linter.unusedVariables false
theorem strs_of {w : World} {A : Option Addr} {n c m : Nat} (h : Mem.Ok Tryz.prog w (m + 2) 25 (Value.slice A n c).cells.toList) :
    ∃ xs : List (List UInt8), xs.length = n ∧ Sl w 1 (.slice A n c) n (xs.map encStr) ∧ ∀ s ∈ xs, s.length ≤ maxLen := by
  have hco : Tryz.prog.cellsOf 9 = 1 := by kernel_rfl
  obtain ⟨v, m', xs, e1, hS, hm, hel⟩ := ok_slice Tryz.underlying25 h (by omega)
  rw [hco] at hS hel
  have e2 : v = .slice A n c := by simp [Value.cells] at e1; exact e1.symm
  subst e2
  obtain ⟨rfl, _, _, hl, _⟩ := hS.parts
  obtain ⟨l, h1, h2, h3⟩ := rows_of (s := 1) (fun s => [encStr s]) (fun s : List UInt8 => s.length ≤ maxLen) _ xs hl (fun i hi => by
    obtain ⟨s, e1, hs⟩ := ok_string (n := m) Tryz.underlying9 (hel i hi)
    refine ⟨s.data.toList, e1.trans ?_, hs⟩
    show [Value.string s] = [Value.string ⟨s.data.toList.toArray⟩]
    rw [ba_eta])
  have e : l.flatMap (fun s => [encStr s]) = l.map encStr := by
    clear h1 h2 h3
    induction l with
    | nil => rfl
    | cons a l ih => rw [List.flatMap_cons, ih]; rfl
  exact ⟨l, h1, by rw [← e, ← h2]; exact hS, h3⟩
theorem budget_of {w : World} {cs : Array Value} (h : Mem.Ok Tryz.prog w 9 24 cs.toList) : ∃ (k v : Int) (p : Bool), cs = #[.int .i64 k, .int .i64 v, .bool p] ∧ (Lit.int .i64 k).wf = true ∧ (Lit.int .i64 v).wf = true := by
  obtain ⟨hl, hf⟩ := ok_struct (n := 8) Tryz.underlying24 h
  rw [show Tryz.prog.cellsOf 24 = 3 by kernel_rfl] at hl
  obtain ⟨k, e0, w0⟩ := ok_int (n := 7) Tryz.underlying3 (ok_field hf 0 3 0 1 rfl (by kernel_rfl))
  obtain ⟨v, e1, w1⟩ := ok_int (n := 7) Tryz.underlying3 (ok_field hf 1 3 1 1 rfl (by kernel_rfl))
  obtain ⟨p, e2⟩ := ok_bool (n := 7) Tryz.underlying4 (ok_field hf 2 4 2 1 rfl (by kernel_rfl))
  exact ⟨k, v, p, arr_of (three_of hl (Go.Proofs.Mem.one_cell e0) (Go.Proofs.Mem.one_cell e1) (Go.Proofs.Mem.one_cell e2)), w0, w1⟩
theorem budgetMay_walk (A : Option Addr) (n c : Nat) (cs : Array Value) (A2 : Option Addr) (n2 c2 : Nat) (w : World) (h : Mem.Ok Tryz.prog w 9 22 (Value.slice A n c).cells.toList) (hb : Mem.Ok Tryz.prog w 9 24 cs.toList) (h2 : Mem.Ok Tryz.prog w 9 25 (Value.slice A2 n2 c2).cells.toList) :
    Calls Tryz.prog 3 #[.slice A n c, .agg cs, .slice A2 n2 c2] w fun e w' => e = .returned (.bool true) ∧ Below w.heap.size w w' := by
  obtain ⟨l, e1, m1, s1, o1⟩ := obs_of (m := 2) h
  obtain ⟨k, v, p, rfl, _, _⟩ := budget_of hb
  obtain ⟨l2, e2, s2, o2⟩ := strs_of (m := 7) h2
  subst e1 e2
  exact budgetMay_any w A c l s1 o1 m1 k v p A2 c2 l2 s2 o2
end Go.Proofs.YtcbnmoghjhljbaaGreat
end
