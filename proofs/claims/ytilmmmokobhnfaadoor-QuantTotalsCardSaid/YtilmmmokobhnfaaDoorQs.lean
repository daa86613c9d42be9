/-
  The walks of a unit's scale: package quant's, and the law's own. (printed by wip/gen_qs.py)
-/
import Derived.Test.YtilmmmokobhnfaaDoorProg
import Derived.Test.YtilmmmokobhnfaaDoorMem
import Derived.Test.YtilmmmokobhnfaaDoorQn
namespace Go.Proofs.YtilmmmokobhnfaaDoor
open Go.RowKit Go.Proofs.Mem Go.Proofs.Qn
set_option linter.unusedVariables false
set_option linter.unusedSimpArgs false
theorem ba_list (u : ByteArray) : u.toList = u.data.toList := ByteArray.toList_eq u
theorem ba_ne {u : ByteArray} {l : List UInt8} (h : u.data.toList ≠ l) : (u.toList == l) = false := by
  rw [ba_list]
  simpa using h
theorem ba_em {u : ByteArray} (h : u.data.toList ≠ []) : u.toList.isEmpty = false := by
  rw [ba_list]
  simpa using h
theorem ba_eq {u : ByteArray} {l : List UInt8} (h : u.data.toList = l) : u = ⟨l.toArray⟩ := by
  apply ByteArray.ext
  rw [← h]
set_option maxRecDepth 100000 in
theorem qscale_any (u : ByteArray) (w : World) : Calls Tryd.prog 24 #[.string u] w fun e w' => e = .returned (.tuple #[.int .u64 (scaleN u.data.toList), .bool (decide (scaleN u.data.toList ≠ 0))]) ∧ w = w' := by
  by_cases h0 : u.data.toList = [109]
  · have e := ba_eq h0
    have hs : scaleN u.data.toList = 1 := by rw [h0]; rfl
    rw [hs]
    clear hs h0
    subst e
    go_enter Tryd.func24, Tryd.ntmps24
    go_wp2_with fail
    go_ret2
    exact ⟨rfl, rfl⟩
  by_cases h1 : u.data.toList = []
  · have e := ba_eq h1
    have hs : scaleN u.data.toList = 1000 := by rw [h1]; rfl
    rw [hs]
    clear hs h1
    subst e
    go_enter Tryd.func24, Tryd.ntmps24
    go_wp2_with fail
    go_ret2
    exact ⟨rfl, rfl⟩
  by_cases h2 : u.data.toList = [107]
  · have e := ba_eq h2
    have hs : scaleN u.data.toList = 1000000 := by rw [h2]; rfl
    rw [hs]
    clear hs h2
    subst e
    go_enter Tryd.func24, Tryd.ntmps24
    go_wp2_with fail
    go_ret2
    exact ⟨rfl, rfl⟩
  by_cases h3 : u.data.toList = [77]
  · have e := ba_eq h3
    have hs : scaleN u.data.toList = 1000000000 := by rw [h3]; rfl
    rw [hs]
    clear hs h3
    subst e
    go_enter Tryd.func24, Tryd.ntmps24
    go_wp2_with fail
    go_ret2
    exact ⟨rfl, rfl⟩
  by_cases h4 : u.data.toList = [71]
  · have e := ba_eq h4
    have hs : scaleN u.data.toList = 1000000000000 := by rw [h4]; rfl
    rw [hs]
    clear hs h4
    subst e
    go_enter Tryd.func24, Tryd.ntmps24
    go_wp2_with fail
    go_ret2
    exact ⟨rfl, rfl⟩
  by_cases h5 : u.data.toList = [75, 105]
  · have e := ba_eq h5
    have hs : scaleN u.data.toList = 1024000 := by rw [h5]; rfl
    rw [hs]
    clear hs h5
    subst e
    go_enter Tryd.func24, Tryd.ntmps24
    go_wp2_with fail
    go_ret2
    exact ⟨rfl, rfl⟩
  by_cases h6 : u.data.toList = [77, 105]
  · have e := ba_eq h6
    have hs : scaleN u.data.toList = 1048576000 := by rw [h6]; rfl
    rw [hs]
    clear hs h6
    subst e
    go_enter Tryd.func24, Tryd.ntmps24
    go_wp2_with fail
    go_ret2
    exact ⟨rfl, rfl⟩
  by_cases h7 : u.data.toList = [71, 105]
  · have e := ba_eq h7
    have hs : scaleN u.data.toList = 1073741824000 := by rw [h7]; rfl
    rw [hs]
    clear hs h7
    subst e
    go_enter Tryd.func24, Tryd.ntmps24
    go_wp2_with fail
    go_ret2
    exact ⟨rfl, rfl⟩
  have hs : scaleN u.data.toList = 0 := by simp only [scaleN, h0, h1, h2, h3, h4, h5, h6, h7, if_false]
  rw [hs]
  have q0 : (u.toList == [109]) = false := ba_ne h0
  have q1 : u.toList.isEmpty = false := ba_em h1
  have q2 : (u.toList == [107]) = false := ba_ne h2
  have q3 : (u.toList == [77]) = false := ba_ne h3
  have q4 : (u.toList == [71]) = false := ba_ne h4
  have q5 : (u.toList == [75, 105]) = false := ba_ne h5
  have q6 : (u.toList == [77, 105]) = false := ba_ne h6
  have q7 : (u.toList == [71, 105]) = false := ba_ne h7
  clear h0 h1 h2 h3 h4 h5 h6 h7 hs
  go_enter Tryd.func24, Tryd.ntmps24
  go_wp2_with fail
  go_ret2
  exact ⟨rfl, rfl⟩
set_option maxRecDepth 100000 in
theorem lscale_any (u : ByteArray) (w : World) : Calls Tryd.prog 11 #[.string u] w fun e w' => e = .returned (.int .u64 (scaleN u.data.toList)) ∧ w = w' := by
  by_cases h0 : u.data.toList = [109]
  · have e := ba_eq h0
    have hs : scaleN u.data.toList = 1 := by rw [h0]; rfl
    rw [hs]
    clear hs h0
    subst e
    go_enter Tryd.func11, Tryd.ntmps11
    go_wp2_with fail
    go_ret
    exact ⟨rfl, rfl⟩
  by_cases h1 : u.data.toList = []
  · have e := ba_eq h1
    have hs : scaleN u.data.toList = 1000 := by rw [h1]; rfl
    rw [hs]
    clear hs h1
    subst e
    go_enter Tryd.func11, Tryd.ntmps11
    go_wp2_with fail
    go_ret
    exact ⟨rfl, rfl⟩
  by_cases h2 : u.data.toList = [107]
  · have e := ba_eq h2
    have hs : scaleN u.data.toList = 1000000 := by rw [h2]; rfl
    rw [hs]
    clear hs h2
    subst e
    go_enter Tryd.func11, Tryd.ntmps11
    go_wp2_with fail
    go_ret
    exact ⟨rfl, rfl⟩
  by_cases h3 : u.data.toList = [77]
  · have e := ba_eq h3
    have hs : scaleN u.data.toList = 1000000000 := by rw [h3]; rfl
    rw [hs]
    clear hs h3
    subst e
    go_enter Tryd.func11, Tryd.ntmps11
    go_wp2_with fail
    go_ret
    exact ⟨rfl, rfl⟩
  by_cases h4 : u.data.toList = [71]
  · have e := ba_eq h4
    have hs : scaleN u.data.toList = 1000000000000 := by rw [h4]; rfl
    rw [hs]
    clear hs h4
    subst e
    go_enter Tryd.func11, Tryd.ntmps11
    go_wp2_with fail
    go_ret
    exact ⟨rfl, rfl⟩
  by_cases h5 : u.data.toList = [75, 105]
  · have e := ba_eq h5
    have hs : scaleN u.data.toList = 1024000 := by rw [h5]; rfl
    rw [hs]
    clear hs h5
    subst e
    go_enter Tryd.func11, Tryd.ntmps11
    go_wp2_with fail
    go_ret
    exact ⟨rfl, rfl⟩
  by_cases h6 : u.data.toList = [77, 105]
  · have e := ba_eq h6
    have hs : scaleN u.data.toList = 1048576000 := by rw [h6]; rfl
    rw [hs]
    clear hs h6
    subst e
    go_enter Tryd.func11, Tryd.ntmps11
    go_wp2_with fail
    go_ret
    exact ⟨rfl, rfl⟩
  by_cases h7 : u.data.toList = [71, 105]
  · have e := ba_eq h7
    have hs : scaleN u.data.toList = 1073741824000 := by rw [h7]; rfl
    rw [hs]
    clear hs h7
    subst e
    go_enter Tryd.func11, Tryd.ntmps11
    go_wp2_with fail
    go_ret
    exact ⟨rfl, rfl⟩
  have hs : scaleN u.data.toList = 0 := by simp only [scaleN, h0, h1, h2, h3, h4, h5, h6, h7, if_false]
  rw [hs]
  have q0 : (u.toList == [109]) = false := ba_ne h0
  have q1 : u.toList.isEmpty = false := ba_em h1
  have q2 : (u.toList == [107]) = false := ba_ne h2
  have q3 : (u.toList == [77]) = false := ba_ne h3
  have q4 : (u.toList == [71]) = false := ba_ne h4
  have q5 : (u.toList == [75, 105]) = false := ba_ne h5
  have q6 : (u.toList == [77, 105]) = false := ba_ne h6
  have q7 : (u.toList == [71, 105]) = false := ba_ne h7
  clear h0 h1 h2 h3 h4 h5 h6 h7 hs
  go_enter Tryd.func11, Tryd.ntmps11
  go_wp2_with fail
  go_ret
  exact ⟨rfl, rfl⟩
end Go.Proofs.YtilmmmokobhnfaaDoor
