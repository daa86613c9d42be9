/-
  Arguments that are no single cell, opened by their types: 'Ok P w n t cs': what the cells cs of type t hold, n types deep, told off 'DataW.trod'. Nothing of the program's own.
-/
import Derived.Test.YthdjfcfbmmmmcaaMem
import Derived.DataReads
import Derived.ChangeArms
import Derived.Deep.Slices
import Derived.SizedLaws
namespace Go.Proofs.Mem
set_option linter.unusedVariables false
set_option linter.unusedSimpArgs false
open Go.ChangeShapes Go.WideShapes Go.RowKit

def Ok (P : Program) (w : World) : Nat → TypeId → List Value → Prop
  | 0, _, _ => True
  | n + 1, t, cs =>
    match P.underlying t with
    | some .bool => ∃ b, cs = [.bool b]
    | some (.int k) => ∃ z, cs = [.int k z] ∧ (Lit.int k z).wf = true
    | some .string => ∃ s, cs = [.string s] ∧ s.size ≤ reachBytes
    | some (.struct fs) => cs.length = P.cellsOf t ∧ ∀ (i : Nat) (f : Field), fs[i]? = some f → Ok P w n f.type ((cs.drop f.offset).take (P.cellsOf f.type))
    | some (.slice e) => 0 < P.cellsOf e → ∃ v m xs, cs = [v] ∧ Sl w (P.cellsOf e) v m xs ∧ (m ≤ maxLen ∧ m * P.bytesOf e ≤ reachBytes) ∧ ∀ i, i < m → Ok P w n e ((xs.drop (i * P.cellsOf e)).take (P.cellsOf e))
    | _ => True

theorem take_drop_flat {k : Nat} : ∀ (m : Nat) (f : Nat → List Value), (∀ i, i < m → (f i).length = k) → ∀ i, i < m → ((((List.range m).flatMap f).drop (i * k)).take k) = f i
  | 0, _, _, i, hi => absurd hi (Nat.not_lt_zero _)
  | m + 1, f, h, i, hi => by
    have hlen : ∀ m, (∀ i, i < m → (f i).length = k) → ((List.range m).flatMap f).length = m * k := by
      intro m
      induction m with
      | zero => intro _; simp
      | succ m ih =>
        intro hm
        rw [List.range_succ, List.flatMap_append, List.length_append, ih fun i hi => hm i (by omega)]
        simp [hm m (by omega), Nat.succ_mul]
    have hl := hlen m fun i hi => h i (by omega)
    rw [List.range_succ, List.flatMap_append]
    rcases Nat.lt_succ_iff_lt_or_eq.1 hi with hlt | rfl
    · have := take_drop_flat m f (fun i hi => h i (by omega)) i hlt
      have hle : i * k + k ≤ m * k := by
        have := Nat.mul_le_mul_right k (show i + 1 ≤ m from hlt)
        rwa [Nat.succ_mul] at this
      rw [List.drop_append_of_le_length (by omega), List.take_append_of_le_length (by rw [List.length_drop, hl]; omega)]
      exact this
    · rw [List.drop_append, List.drop_eq_nil_of_le (by omega), hl, Nat.sub_self]
      simp
      rw [← h i (by omega), List.take_length]
theorem flat_len {k : Nat} (f : Nat → List Value) : ∀ m, (∀ i, i < m → (f i).length = k) → ((List.range m).flatMap f).length = m * k := by
  intro m
  induction m with
  | zero => intro _; simp
  | succ m ih =>
    intro hm
    rw [List.range_succ, List.flatMap_append, List.length_append, ih fun i hi => hm i (by omega)]
    simp [hm m (by omega), Nat.succ_mul]
theorem flat_get {k : Nat} (hk : 0 < k) (m : Nat) (f : Nat → List Value) (h : ∀ i, i < m → (f i).length = k) (j : Nat) (hj : j < m * k) : ((List.range m).flatMap f)[j]? = (f (j / k))[j % k]? := by
  have hd : j / k < m := Nat.div_lt_of_lt_mul (by rwa [Nat.mul_comm])
  have hm := Nat.mod_lt j hk
  have e := take_drop_flat m f h (j / k) hd
  rw [← e, List.getElem?_take, if_pos hm, List.getElem?_drop]
  congr 1
  have := Nat.div_add_mod j k
  rw [Nat.mul_comm] at this
  omega

section
variable {H : Type} {enc : TypeId × Value → H} {P : Program} {w : World} {spare : Nat → Bool} {held : Bool}
theorem weightsAll_mem {H : Type} {P : Program} {e : TypeId} : ∀ {l : List (DataW H)} {d : DataW H}, d ∈ l → ∀ n ∈ d.weights P e, n ∈ DataW.weightsAll P e l
  | d0 :: l, d, h, n, hn => by
    simp only [DataW.weightsAll, List.mem_append]
    rcases List.mem_cons.1 h with rfl | h
    · exact .inl hn
    · exact .inr (weightsAll_mem h n hn)
theorem reach_max : reachBytes ≤ maxLen := by decide
theorem ok_of_trod : ∀ (n fuel : Nat) (t : TypeId) (cs : List Value) (x : DataW H × List MemPlace), DataW.trod enc P w 0 spare held fuel t cs = some x → (∀ k ∈ x.1.weights P t, k ≤ reachBytes) → Ok P w n t cs
  | 0, _, _, _, _, _, _ => trivial
  | n + 1, 0, _, _, _, h, _ => by simp [DataW.trod] at h
  | n + 1, fuel + 1, t, cs, x, h, hr => by
    unfold Ok
    split
    · rename_i hu
      unfold DataW.trod at h
      rw [hu] at h
      split at h <;> simp_all
    · rename_i hu
      unfold DataW.trod at h
      rw [hu] at h
      split at h <;> simp_all
    · rename_i hu
      unfold DataW.trod at h
      rw [hu] at h
      split at h <;> simp_all
      rename_i s _
      obtain ⟨_, rfl⟩ := h
      simpa [DataW.weights] using hr
    · rename_i fs hu
      obtain ⟨xs, n', _, rfl, hl, hlen, hf⟩ := DataW.trod_struct hu h
      refine ⟨hl, fun i f hi => ?_⟩
      have hlt : i < xs.length := by
        rw [hlen]
        rcases Nat.lt_or_ge i fs.size with hlt | hge
        · exact hlt
        · rw [Array.getElem?_eq_none hge] at hi; cases hi
      have := hf i f hi
      rw [List.getElem?_eq_getElem hlt] at this
      refine ok_of_trod n _ _ _ _ this fun k hk => hr k ?_
      simp only [DataW.weights, hu]
      refine DataW.weights_mem_each (j := i) (t := f.type) (d := xs[i].1) ?_ ?_ k hk
      · rw [List.getElem?_map, Array.getElem?_toList, hi]; rfl
      · rw [List.getElem?_map, List.getElem?_eq_getElem hlt]; rfl
    · rename_i e hu
      intro hpos
      rcases Go.Deep.open_slice hu h with ⟨rfl, _⟩ | ⟨a, len, cap, m, n', D, Pl, rfl, hb, hl, hm, hmm, rfl, hx⟩
      · exact ⟨_, 0, [], rfl, Sl.nil w _, ⟨by simp [maxLen], by simp⟩, fun i hi => absurd hi (Nat.not_lt_zero _)⟩
      · have hle : len ≤ m := by rw [hmm]; split <;> omega
        obtain ⟨C, hC⟩ := Go.Deep.choose_lt (α := List Value) (p := fun i c => w.cells? 0 (a.add (i * P.cellsOf e)) (P.cellsOf e) = some c ∧ DataW.trod enc P w 0 spare held n' e c = some (D i, Pl i)) (n := len) (fun i hi => hx i (by omega))
        have hCl : ∀ i, i < len → (C i).length = P.cellsOf e := fun i hi => (World.cells?_some (hC i hi).1).2.1
        refine ⟨_, len, (List.range len).flatMap C, rfl, ⟨_, _, rfl, hl, (fun h => by cases h), flat_len C len hCl, fun h0 => ⟨a, rfl, ?_, ?_⟩⟩, ⟨by omega, ?_⟩, ?_⟩
        · obtain ⟨_, h2, h3⟩ := World.cells?_some (hC 0 h0).1
          have := h3 0 hpos
          rw [List.getElem?_eq_getElem (by omega)] at this
          have := World.block_lt_of_cell? _ _ this
          simpa [add_block] using this
        · intro j u hu'
          have hj : j < len * P.cellsOf e := by
            rcases Nat.lt_or_ge j (len * P.cellsOf e) with hlt | hge
            · exact hlt
            · rw [List.getElem?_eq_none (by rw [flat_len C len hCl]; omega)] at hu'; cases hu'
          rw [flat_get hpos len C hCl j hj] at hu'
          have hd : j / P.cellsOf e < len := Nat.div_lt_of_lt_mul (by rwa [Nat.mul_comm])
          obtain ⟨_, h2, h3⟩ := World.cells?_some (hC _ hd).1
          have h4 := h3 (j % P.cellsOf e) (Nat.mod_lt _ hpos)
          rw [hu', add_add] at h4
          have : j / P.cellsOf e * P.cellsOf e + j % P.cellsOf e = j := by
            have := Nat.div_add_mod j (P.cellsOf e); rw [Nat.mul_comm] at this; exact this
          rwa [this] at h4
        · refine Nat.le_trans (Nat.mul_le_mul_right _ ?_) (hr ((len + (m - len)) * P.bytesOf e) (by simp [DataW.weights, hu]))
          omega
        · intro i hi
          rw [take_drop_flat len C hCl i hi]
          refine ok_of_trod n _ _ _ _ (hC i hi).2 fun k hk => hr k ?_
          simp only [DataW.weights, hu]
          refine List.mem_cons_of_mem _ (List.mem_append_left _ (weightsAll_mem (d := D i) ?_ k hk))
          exact List.mem_map.2 ⟨i, by simpa using hi, rfl⟩
    · trivial
theorem ok_of_Trod {t : TypeId} {v : Value} {d : DataW H} {p : List MemPlace} (n : Nat) (h : DataW.Trod enc P w 0 spare held t v d p) (hr : ∀ k ∈ d.weights P t, k ≤ reachBytes) : Ok P w n t v.cells.toList := by
  obtain ⟨m, hm⟩ := h
  exact ok_of_trod n _ _ _ _ hm hr
end
section
variable {P : Program} {w : World} {n : Nat} {t : TypeId} {cs : List Value}
theorem ok_struct {fs : Array Field} (ht : P.underlying t = some (.struct fs)) (h : Ok P w (n + 1) t cs) : cs.length = P.cellsOf t ∧ ∀ (i : Nat) (f : Field), fs[i]? = some f → Ok P w n f.type ((cs.drop f.offset).take (P.cellsOf f.type)) := by
  unfold Ok at h; rw [ht] at h; exact h
theorem ok_field {fs : Array Field} (hf : ∀ (i : Nat) (f : Field), fs[i]? = some f → Ok P w n f.type ((cs.drop f.offset).take (P.cellsOf f.type))) (i : Nat) (ty : TypeId) (off sz : Nat) (h : (fs[i]?).map (fun f => (f.type, f.offset)) = some (ty, off)) (hs : P.cellsOf ty = sz) : Ok P w n ty ((cs.drop off).take sz) := by
  obtain ⟨f, h1, h2⟩ := Option.map_eq_some_iff.1 h
  injection h2 with h3 h4
  have := hf i f h1
  rw [h3, h4, hs] at this
  exact this
theorem ok_int {k : IntKind} (ht : P.underlying t = some (.int k)) (h : Ok P w (n + 1) t cs) : ∃ z, cs = [.int k z] ∧ (Lit.int k z).wf = true := by
  unfold Ok at h; rw [ht] at h; exact h
theorem ok_bool (ht : P.underlying t = some .bool) (h : Ok P w (n + 1) t cs) : ∃ b, cs = [.bool b] := by
  unfold Ok at h; rw [ht] at h; exact h
theorem ok_stringR (ht : P.underlying t = some .string) (h : Ok P w (n + 1) t cs) : ∃ s, cs = [.string s] ∧ s.size ≤ reachBytes := by
  unfold Ok at h; rw [ht] at h; exact h
theorem ok_string (ht : P.underlying t = some .string) (h : Ok P w (n + 1) t cs) : ∃ s, cs = [.string s] ∧ s.size ≤ maxLen := by
  obtain ⟨s, h1, h2⟩ := ok_stringR ht h
  exact ⟨s, h1, Nat.le_trans h2 reach_max⟩
theorem ok_sliceR {e : TypeId} (ht : P.underlying t = some (.slice e)) (h : Ok P w (n + 1) t cs) (h0 : 0 < P.cellsOf e) : ∃ v m xs, cs = [v] ∧ Sl w (P.cellsOf e) v m xs ∧ (m ≤ maxLen ∧ m * P.bytesOf e ≤ reachBytes) ∧ ∀ i, i < m → Ok P w n e ((xs.drop (i * P.cellsOf e)).take (P.cellsOf e)) := by
  unfold Ok at h; rw [ht] at h; exact h h0
theorem ok_slice {e : TypeId} (ht : P.underlying t = some (.slice e)) (h : Ok P w (n + 1) t cs) (h0 : 0 < P.cellsOf e) : ∃ v m xs, cs = [v] ∧ Sl w (P.cellsOf e) v m xs ∧ m ≤ maxLen ∧ ∀ i, i < m → Ok P w n e ((xs.drop (i * P.cellsOf e)).take (P.cellsOf e)) := by
  obtain ⟨v, m, xs, h1, h2, h3, h4⟩ := ok_sliceR ht h h0
  exact ⟨v, m, xs, h1, h2, h3.1, h4⟩
end
theorem one_cell {cs : List Value} {o : Nat} {v : Value} (h : (cs.drop o).take 1 = [v]) : cs[o]? = some v := by
  have : ((cs.drop o).take 1)[0]? = some v := by rw [h]; rfl
  simpa [List.getElem?_take, List.getElem?_drop] using this
attribute [irreducible] Ok
theorem two_of {cs : List Value} {a b : Value} (hl : cs.length = 2) (h0 : cs[0]? = some a) (h1 : cs[1]? = some b) : cs = [a, b] := by
  match cs, hl with
  | [x, y], _ => simp at h0 h1; rw [h0, h1]
theorem three_of {cs : List Value} {a b c : Value} (hl : cs.length = 3) (h0 : cs[0]? = some a) (h1 : cs[1]? = some b) (h2 : cs[2]? = some c) : cs = [a, b, c] := by
  match cs, hl with
  | [x, y, z], _ => simp at h0 h1 h2; rw [h0, h1, h2]
theorem arr_of {cs : Array Value} {l : List Value} (h : cs.toList = l) : cs = l.toArray := by rw [← h]
/-- A row of integers that came in. -/
theorem ints_ok {P : Program} {w : World} {t e : TypeId} {k : IntKind} {A : Option Addr} {n c m : Nat} (ht : P.underlying t = some (.slice e)) (he : P.underlying e = some (.int k)) (hc : P.cellsOf e = 1) (h : Ok P w (m + 2) t (Value.slice A n c).cells.toList) :
    n ≤ maxLen ∧ ∃ zs : List Int, zs.length = n ∧ Sl w 1 (.slice A n c) n (zs.map (fun z => Value.int k z)) ∧ ∀ z ∈ zs, (Lit.int k z).wf = true := by
  obtain ⟨v, m', xs, e1, hS, hm, hel⟩ := ok_slice ht h (by omega)
  rw [hc] at hS hel
  have e2 : v = .slice A n c := by simp [Value.cells] at e1; exact e1.symm
  subst e2
  obtain ⟨rfl, _, _, hl, _⟩ := hS.parts
  rw [Nat.mul_one] at hl
  refine ⟨hm, ?_⟩
  have key : ∀ j, j ≤ xs.length → ∃ zs : List Int, zs.length = j ∧ xs.take j = zs.map (fun z => Value.int k z) ∧ ∀ z ∈ zs, (Lit.int k z).wf = true := by
    intro j
    induction j with
    | zero => intro _; exact ⟨[], rfl, by simp, by simp⟩
    | succ j ih =>
      intro hj
      obtain ⟨zs, h1, h2, h3⟩ := ih (by omega)
      obtain ⟨z, hz, hw⟩ := ok_int he (hel j (by omega))
      rw [Nat.mul_one] at hz
      have := one_cell hz
      rw [List.getElem?_eq_getElem (by omega)] at this
      injection this with this
      refine ⟨zs ++ [z], by simp [h1], ?_, ?_⟩
      · rw [List.take_succ_eq_append_getElem (by omega), h2, this, List.map_append]
        rfl
      · intro y hy
        rcases List.mem_append.1 hy with hy | hy
        · exact h3 y hy
        · simp at hy; subst hy; exact hw
  obtain ⟨zs, h1, h2, h3⟩ := key xs.length (Nat.le_refl _)
  rw [List.take_length] at h2
  exact ⟨zs, by omega, by rw [← h2]; exact hS, h3⟩
end Go.Proofs.Mem
