/-
  The symbolic executor: the rule for a loop that counts.; The symbolic executor: rows of an argument as ranges; elements; sums that do not wrap.; Names, plainly: which bytes may stand where ('chB'), and is it a name ('nmB'); The walks of package label: signs and names.; The walks of package trimtabref05: names.; The walks of package trimtabref05: rows of labels that may be.; The walks of package trimtabref05: rows of asks that may be; of package trimtablaw07: whole, sized, wants.; The walks of package trimtablaw07: whole, sized, wants.; The walk of trimtabref06.Empty at any object: are the shapes of other kinds empty? (printed by wip/gen_emg.py); What trimtablaw07.Right says of any object of the kinds 0 to 3; The walks of package label: value, Right; that Right says what the document's rule says.; slices.IndexFunc and slices.ContainsFunc at one function; The walks of package valid: numbers, names, sizes, wants, shapes; The walks of package valid: all, behavior, past, hpa; The walk of valid.empties at any object; The walk of valid.Check at any object; The walk of trimtablaw07.goes
-/
import Derived.Test.YtkpklnalfomcbaaCSCts2
import Derived.Test.YtkpklnalfomcbaaCSCts1
import Derived.IntWalk
import Derived.Test.YtkpklnalfomcbaaProg
import Derived.BigQuiet
import Derived.Outline
import Derived.Laws.StructEq
import Derived.WalkLawsBesides
import Derived.Deep.QuietTactic
import Derived.BigRegion
section
namespace Go.Proofs.Mem
open Go.RowKit
set_option linter.unusedVariables false
set_option linter.unusedSimpArgs false
def extB : Option (Blk × (Nat × Nat)) → List Blk
  | none => []
  | some x => [x.1]
def Hyp.round (H : Hyp) (m : Nat) (call : Nat → Option SV) (gl : Nat → Bool) (dec : Nat → Option Bool) (ext : Option (Blk × (Nat × Nat))) : Hyp :=
  { H with E := { H.E with call := call, gl := gl }, X := fun ρ => H.X ρ ∧ ∀ x, ext = some x → ρ m = x.2, n0 := m + (extB ext).length, dec := dec }
theorem get_head {k : Nat} {ks : List Nat} {v : SV} {vs : List SV} : (mkF (k :: ks) (v :: vs)).get k = some ⟨v, none⟩ := by
  unfold mkF PF.get
  rw [Nat.beq_refl]
theorem take_take_len {α : Type} (l : List α) (m : Nat) : l.take (l.take m).length = l.take m := by
  rw [List.length_take]
  rcases Nat.le_total m l.length with h | h
  · rw [Nat.min_eq_left h]
  · rw [Nat.min_eq_right h, List.take_length, List.take_of_length_le h]
theorem px_loop {H : Hyp} (hA : AggOk H.E) (hX : ∀ ρ i g, H.n0 ≤ i → H.X ρ → H.X (upd ρ i g)) (hm : H.E.P.follows .mixedOrders = true) {id : Nat} {body : Code} {out : PT2} (hout : H.loops id = some (fun _ => out)) (lks : Nat → List Nat) {K : IntKind} {s : Nat} {ks kx kr : List Nat} (hks : lks id = s :: ks)
    (n m : Nat) (J : Nat → Prop) (hJ0 : J 0) (inv : Nat → List SV) (Bs : Nat → List Blk) (ext : Nat → Option (Blk × (Nat × Nat))) (call : Nat → Nat → Option SV) (gl : Nat → Nat → Bool) (dec : Nat → Nat → Option Bool)
    (hlen : ∀ k, k ≤ n → (Bs k).length = m) (hlt : ∀ k, k ≤ n → (mkF (s :: ks) (.v (.int K (k : Int)) :: inv k)).lt m = true) (hext : ∀ k x, ext k = some x → x.1.own = false ∧ x.2.1 < H.W0.heap.size ∧ H.W0.rangeAt x.2.1 x.2.2 x.1.cells) (hn0 : H.n0 ≤ m)
    (hround : ∀ k, k ≤ n → J k → ∃ V d, (px2Code (H.round m (call k) (gl k) (dec k) (ext k)) body ⟨mkF (s :: ks) (.v (.int K (k : Int)) :: inv k), Bs k ++ extB (ext k)⟩).view id (s :: ks) kx kr m lks = some (V, d) ∧ d.Ok (H.round m (call k) (gl k) (dec k) (ext k)) lks ∧
      V.sat (fun vs B => k < n ∧ J (k + 1) ∧ vs = (SV.v (.int K ((k + 1 : Nat) : Int)) :: inv (k + 1)).map some ∧ B = Bs (k + 1))
        (fun vs B => ∃ xs, vs = xs.map some ∧ (mkF kx xs).lt m = true ∧ ∀ Q, out.leaves Q → Q .normal ⟨mkF kx xs, B⟩)
        (fun vs B => ∃ xs, vs = xs.map some ∧ (mkF kr xs).lt m = true ∧ ∀ Q, out.leaves Q → Q .ret ⟨mkF kr xs, B⟩)) :
    LoopSpec H lks (id, .loop body, (SV.v (.int K 0) :: inv 0).map some, Bs 0) := by
  refine ⟨fun _ => out, hout, fun S hl hB ρ a w Q hR hleaves => ?_⟩
  simp only at hl hB
  rw [hks] at hl
  refine wp_block (wp_loop (I := fun a w => ∃ (k : Nat) (ρ : Nat → Nat × Nat), k ≤ n ∧ J k ∧ PR H.E H.W0 H.X H.n0 H.ds ⟨mkF (s :: ks) (.v (.int K (k : Int)) :: inv k), Bs k⟩ ρ a w) (μ := fun a w => n - (intOf (a.tmps.getD s undef)).toNat) ?_ ?_)
  · refine ⟨0, ρ, Nat.zero_le _, hJ0, hR.forget rfl (by rw [hB, List.take_length]) hR.ext (by rw [hlen 0 (Nat.zero_le _)]; exact hn0) (mkF_ok hR.slots hl) (by rw [hlen 0 (Nat.zero_le _)]; exact hlt 0 (Nat.zero_le _))⟩
  · rintro a w ⟨k, ρ, hk, hJ, hP⟩
    obtain ⟨V, d, hv, hd, hsat⟩ := hround k hk hJ
    have hl0 := hlen k hk
    have hXk : ∀ ρ i g, (H.round m (call k) (gl k) (dec k) (ext k)).n0 ≤ i → (H.round m (call k) (gl k) (dec k) (ext k)).X ρ → (H.round m (call k) (gl k) (dec k) (ext k)).X (upd ρ i g) := by
      intro ρ i g hi ⟨h1, h2⟩
      have hi' : m + (extB (ext k)).length ≤ i := hi
      refine ⟨hX ρ i g (by omega) h1, fun x hx => ?_⟩
      rw [hx] at hi'
      simp only [extB, List.length_cons, List.length_nil] at hi'
      rw [upd_far _ _ (by omega)]
      exact h2 x hx
    have hcnt : a.tmps.getD s undef = .int K (k : Int) := hP.slots s _ get_head
    have hPk : ∃ ρ', PR (H.round m (call k) (gl k) (dec k) (ext k)).E H.W0 (H.round m (call k) (gl k) (dec k) (ext k)).X (H.round m (call k) (gl k) (dec k) (ext k)).n0 H.ds ⟨mkF (s :: ks) (.v (.int K (k : Int)) :: inv k), Bs k ++ extB (ext k)⟩ ρ' a w := by
      cases hx : ext k with
      | none =>
        refine ⟨ρ, hP.forget rfl (by simp [extB]) ⟨hP.ext, fun x hx' => by cases hx'⟩ (by show m + _ ≤ _; simp [extB, hl0]) hP.slots (by simpa [extB] using hP.lt)⟩
      | some x =>
        obtain ⟨x1, x2, x3⟩ := hext k x hx
        have h := hP.more hX (E' := H.E) rfl x.1 x.2 x1 x2 x3
        refine ⟨upd ρ (Bs k).length x.2, h.forget rfl (List.take_of_length_le (by simp [extB])) ⟨h.ext, fun y hy => ?_⟩ (by show m + _ ≤ _; simp [extB, hl0]) h.slots (by simpa [extB] using h.lt)⟩
        simp only [Option.some.injEq] at hy
        subst hy
        rw [← hl0, upd_at]
    obtain ⟨ρ', hP'⟩ := hPk
    have hnm : m ≤ (H.round m (call k) (gl k) (dec k) (ext k)).n0 := Nat.le_add_right _ _
    refine px2Code_ok (H := H.round m (call k) (gl k) (dec k) (ext k)) hA hXk hm body hP' (view_sat ?_ ?_ ?_ hv hd hsat)
    · rintro S' ρ1 a1 w1 ⟨hkn, hJ1, e1, e2⟩ hP1
      have hl1 := hlen (k + 1) hkn
      have hc1 : a1.tmps.getD s undef = .int K ((k + 1 : Nat) : Int) := by
        unfold looks at e1
        rw [List.map_cons] at e1
        injection e1 with e1 _
        exact pxTmp_ok hP1.slots (fun g hg => by cases hg) e1
      refine ⟨⟨k + 1, ρ1, hkn, hJ1, hP1.forget rfl (by rw [hl1]; exact e2) hP1.ext.1 (by rw [hl1]; exact hn0) (mkF_ok hP1.slots e1) (by rw [hl1]; exact hlt (k + 1) hkn)⟩, ?_⟩
      show n - (intOf (a1.tmps.getD s undef)).toNat < n - (intOf (a.tmps.getD s undef)).toNat
      rw [hc1, hcnt]
      simp only [intOf]
      omega
    · rintro S' ρ1 a1 w1 ⟨xs, e1, e2, hq⟩ hP1
      have hm1 : m ≤ S'.B.length := Nat.le_trans hnm hP1.nle
      have hlen1 : (S'.B.take m).length = m := by rw [List.length_take]; omega
      show Exit.inBlock id Q (.exit id) a1 w1
      simp only [Exit.inBlock, if_true]
      exact hq (fun e S'' => ∀ ρ' a' w', PR H.E H.W0 H.X H.n0 H.ds S'' ρ' a' w' → Q e a' w') hleaves ρ1 a1 w1 (hP1.forget rfl (by rw [take_take_len]) hP1.ext.1 (by rw [hlen1]; exact hn0) (mkF_ok hP1.slots e1) (by rw [hlen1]; exact e2))
    · rintro S' ρ1 a1 w1 ⟨xs, e1, e2, hq⟩ hP1
      have hm1 : m ≤ S'.B.length := Nat.le_trans hnm hP1.nle
      have hlen1 : (S'.B.take m).length = m := by rw [List.length_take]; omega
      show Exit.inBlock id Q .ret a1 w1
      simp only [Exit.inBlock]
      exact hq (fun e S'' => ∀ ρ' a' w', PR H.E H.W0 H.X H.n0 H.ds S'' ρ' a' w' → Q e a' w') hleaves ρ1 a1 w1 (hP1.forget rfl (by rw [take_take_len]) hP1.ext.1 (by rw [hlen1]; exact hn0) (mkF_ok hP1.slots e1) (by rw [hlen1]; exact e2))
def Code.find (id : Nat) : Code → Option Code
  | .seq a b => match Code.find id a with
    | some c => some c
    | none => Code.find id b
  | .cond _ a b => match Code.find id a with
    | some c => some c
    | none => Code.find id b
  | .block i c => match Nat.beq i id with
    | true => some c
    | false => Code.find id c
  | .loop c => Code.find id c
  | .scope c => Code.find id c
  | _ => none
def loopBody (fn : Func) (id : Nat) : Code := match Code.find id (fn.body.getD .skip) with
  | some (.loop c) => c
  | _ => .skip
end Go.Proofs.Mem
end
section
namespace Go.Proofs.Mem
open Go.RowKit
set_option linter.unusedVariables false
set_option linter.unusedSimpArgs false
theorem row_range {α : Type} {w : World} {s bytes : Nat} {f : α → List Value} {p : α → Prop} {r : Row α} (hs : 0 < s) (hf : ∀ x, (f x).length = s) (h : r.Ok w s bytes f p) (h0 : 0 < r.l.length) :
    ∃ b o c, r.v = .slice (some ⟨b, o, none⟩) r.l.length c ∧ b < w.heap.size ∧ w.rangeAt b o (r.l.flatMap f) := by
  obtain ⟨h1, _, _⟩ := h
  obtain ⟨A, c, e, hc, hn, hl, hx⟩ := id h1
  obtain ⟨ad, e1, hb, hcell⟩ := hx h0
  subst e1
  have hlen := flat_len' f hf r.l
  have h00 : (r.l.flatMap f)[0]? = some ((r.l.flatMap f)[0]'(by rw [hlen]; exact Nat.mul_pos h0 hs)) := List.getElem?_eq_getElem _
  have hc0 := hcell 0 _ h00
  obtain ⟨b, o, sp⟩ := ad
  have hsp : sp = none := World.cell?_spot hc0
  subst hsp
  refine ⟨b, o, c, e, hb, fun j v hj => ?_⟩
  have := hcell j v hj
  rwa [add_lit] at this
theorem range_sub {w : World} {b o : Nat} {cs : List Value} (h : w.rangeAt b o cs) (i n : Nat) : w.rangeAt b (o + i) ((cs.drop i).take n) := by
  intro j v hj
  have hj1 := (List.getElem?_eq_some_iff.1 hj).1
  rw [List.length_take] at hj1
  rw [List.getElem?_take_of_lt (by omega), List.getElem?_drop] at hj
  have := h (i + j) v hj
  rwa [← Nat.add_assoc] at this
theorem flat_at {α : Type} {s : Nat} (f : α → List Value) (hf : ∀ x, (f x).length = s) : ∀ (l : List α) (k : Nat) (h : k < l.length), ((l.flatMap f).drop (k * s)).take s = f l[k]
  | x :: l, 0, _ => by
    rw [Nat.zero_mul, List.drop_zero, List.flatMap_cons, List.take_append_of_le_length (by rw [hf]; exact Nat.le_refl _), List.take_of_length_le (by rw [hf]; exact Nat.le_refl _)]
    rfl
  | x :: l, k + 1, h => by
    rw [List.flatMap_cons, Nat.succ_mul, List.drop_append, List.drop_of_length_le (by rw [hf]; omega), List.nil_append, hf, Nat.add_sub_cancel]
    exact flat_at f hf l k (by simpa using h)
theorem flat_two {α : Type} {s : Nat} (f : α → List Value) (hf : ∀ x, (f x).length = s) : ∀ (l : List α) (k : Nat) (h : k + 1 < l.length), ((l.flatMap f).drop (k * s)).take (s + s) = f l[k] ++ f l[k + 1]
  | x :: [], k, h => by simp at h
  | x :: y :: l, 0, _ => by
    rw [Nat.zero_mul, List.drop_zero, List.flatMap_cons, List.flatMap_cons, ← List.append_assoc, List.take_append_of_le_length (by rw [List.length_append, hf, hf]; exact Nat.le_refl _), List.take_of_length_le (by rw [List.length_append, hf, hf]; exact Nat.le_refl _)]
    rfl
  | x :: y :: l, k + 1, h => by
    rw [List.flatMap_cons, Nat.succ_mul, List.drop_append, List.drop_of_length_le (by rw [hf]; omega), List.nil_append, hf, Nat.add_sub_cancel]
    exact flat_two f hf (y :: l) k (by simpa using h)
theorem elem_range {α : Type} {w : World} {s : Nat} {f : α → List Value} (hf : ∀ x, (f x).length = s) {l : List α} {b o : Nat} (h : w.rangeAt b o (l.flatMap f)) (k : Nat) (hk : k < l.length) : w.rangeAt b (o + k * s) (f l[k]) := by
  have := range_sub h (k * s) s
  rwa [flat_at f hf l k hk] at this
theorem two_range {α : Type} {w : World} {s : Nat} {f : α → List Value} (hf : ∀ x, (f x).length = s) {l : List α} {b o : Nat} (h : w.rangeAt b o (l.flatMap f)) (k : Nat) (hk : k + 1 < l.length) : w.rangeAt b (o + k * s) (f l[k] ++ f l[k + 1]) := by
  have := range_sub h (k * s) (s + s)
  rwa [flat_two f hf l k hk] at this
theorem run_index {P : Program} {T e : TypeId} {s : Nat} (hT : P.underlying T = some (.slice e)) (hi : (P.info? e).map (·.size) = some s) {K : IntKind} (b o n c k : Nat) (hk : k < n) (w : World) :
    (Instr.indexAt T (.slice (some ⟨b, o, none⟩) n c) (.int K (k : Int))).run P w = .ok (.pointer (some ⟨b, o + k * s, none⟩)) w := by
  have h1 : (0 : Int) ≤ (k : Int) ∧ (k : Int) < (n : Int) := by omega
  cases hq : P.info? e with
  | none => rw [hq] at hi; cases hi
  | some i =>
    have hs : i.size = s := by simpa [hq] using hi
    unfold Instr.indexAt
    simp [asIntOf, Sem.run_bind, Sem.run_pure, run_underlying hT, sizeOf, typeInfo, hq, hs, h1, hk, add_lit]
theorem paid_index {E : PE} {W0 : World} {X : (Nat → Nat × Nat) → Prop} {T e : TypeId} {s : Nat} (hT : E.P.underlying T = some (.slice e)) (hi : (E.P.info? e).map (·.size) = some s) {K : IntKind} {b o n c k i off : Nat} (hk : k < n) (hρ : ∀ ρ, X ρ → (ρ i).1 = b ∧ (ρ i).2 + off = o + k * s) :
    (Owed.op (fun ρ => do pure (.value (← Instr.indexAt T (.slice (some ⟨b, o, none⟩) n c) (.int K (k : Int))))) (.p i off)).paid2 E W0 X := by
  intro ρ hX w1 hb
  obtain ⟨h1, h2⟩ := hρ ρ hX
  show Sem.run _ _ w1 = _
  rw [Sem.run_bind, run_index hT hi b o n c k hk w1, Result.andThen_ok, Sem.run_pure]
  simp only [SV.den, h1, h2]
theorem wrap_add (k : Nat) (h : k < 9223372036854775807) : IntKind.i64.wrap ((k : Int) + 1) = ((k + 1 : Nat) : Int) := by
  rw [IntWalk.i64_in _ (by omega)]
  omega
theorem wrap_sub (k : Nat) (h : k < 9223372036854775807) : IntKind.i64.wrap (((k + 1 : Nat) : Int) - 1) = (k : Int) := by
  rw [IntWalk.i64_in _ (by omega)]
  omega
end Go.Proofs.Mem
end
section
namespace Go.Proofs.Ytkpklnalfomcbaa
open Go.RowKit Go.Proofs.Mem
set_option linter.unusedVariables false
def chB (n i : Nat) (c : Nat) : Bool := decide (97 ≤ c ∧ c ≤ 122) || (decide (48 ≤ c ∧ c ≤ 57) || decide (c = 45 ∧ i ≠ 0 ∧ i + 1 ≠ n))
def nmAll (s : ByteArray) : Prop := ∀ (i : Nat) (h : i < s.size), chB s.size i s[i].toNat = true
instance (s : ByteArray) : Decidable (nmAll s) := by unfold nmAll; infer_instance
def nmB (s : ByteArray) : Bool := decide (nmAll s) && (decide (1 ≤ s.size) && decide (s.size ≤ 32))
theorem ch_cases (n i c : Nat) : (97 ≤ c ∧ c ≤ 122 ∧ chB n i c = true) ∨ (48 ≤ c ∧ c ≤ 57 ∧ chB n i c = true) ∨ (c = 45 ∧ i ≠ 0 ∧ i + 1 ≠ n ∧ chB n i c = true) ∨ (c = 45 ∧ i = 0 ∧ chB n i c = false) ∨ (c = 45 ∧ i ≠ 0 ∧ i + 1 = n ∧ chB n i c = false) ∨ (c < 48 ∧ c ≠ 45 ∧ chB n i c = false) ∨ (58 ≤ c ∧ c < 97 ∧ chB n i c = false) ∨ (122 < c ∧ chB n i c = false) := by
  by_cases h1 : 97 ≤ c ∧ c ≤ 122
  · exact .inl ⟨h1.1, h1.2, by simp [chB, h1]⟩
  · by_cases h2 : 48 ≤ c ∧ c ≤ 57
    · exact .inr (.inl ⟨h2.1, h2.2, by simp [chB, h2]⟩)
    · by_cases h3 : c = 45
      · subst h3
        by_cases h4 : i = 0
        · exact .inr (.inr (.inr (.inl ⟨rfl, h4, by simp [chB, h4]⟩)))
        · by_cases h5 : i + 1 = n
          · exact .inr (.inr (.inr (.inr (.inl ⟨rfl, h4, h5, by simp [chB, h5]⟩))))
          · exact .inr (.inr (.inl ⟨rfl, h4, h5, by simp [chB, h4, h5]⟩))
      · have hf : chB n i c = false := by
          unfold chB
          simp only [Bool.or_eq_false_iff, decide_eq_false_iff_not]
          exact ⟨h1, h2, fun h => h3 h.1⟩
        rcases Nat.lt_or_ge c 48 with h4 | h4
        · exact .inr (.inr (.inr (.inr (.inr (.inl ⟨h4, h3, hf⟩)))))
        · rcases Nat.lt_or_ge c 97 with h5 | h5
          · exact .inr (.inr (.inr (.inr (.inr (.inr (.inl ⟨by omega, h5, hf⟩))))))
          · exact .inr (.inr (.inr (.inr (.inr (.inr (.inr ⟨by omega, hf⟩))))))
def sgB (c : Nat) : Bool := decide (97 ≤ c ∧ c ≤ 122) || (decide (48 ≤ c ∧ c ≤ 57) || decide (c = 45))
theorem sg_cases (c : Nat) : (97 ≤ c ∧ c ≤ 122 ∧ sgB c = true) ∨ (48 ≤ c ∧ c ≤ 57 ∧ sgB c = true) ∨ (c = 45 ∧ sgB c = true) ∨ (c < 48 ∧ c ≠ 45 ∧ sgB c = false) ∨ (58 ≤ c ∧ c < 97 ∧ sgB c = false) ∨ (122 < c ∧ sgB c = false) := by
  by_cases h1 : 97 ≤ c ∧ c ≤ 122
  · exact .inl ⟨h1.1, h1.2, by simp [sgB, h1]⟩
  · by_cases h2 : 48 ≤ c ∧ c ≤ 57
    · exact .inr (.inl ⟨h2.1, h2.2, by simp [sgB, h2]⟩)
    · by_cases h3 : c = 45
      · subst h3; exact .inr (.inr (.inl ⟨rfl, by decide⟩))
      · have hf : sgB c = false := by
          unfold sgB
          simp only [Bool.or_eq_false_iff, decide_eq_false_iff_not]
          exact ⟨h1, h2, h3⟩
        rcases Nat.lt_or_ge c 48 with h4 | h4
        · exact .inr (.inr (.inr (.inl ⟨h4, h3, hf⟩)))
        · rcases Nat.lt_or_ge c 97 with h5 | h5
          · exact .inr (.inr (.inr (.inr (.inl ⟨by omega, h5, hf⟩))))
          · exact .inr (.inr (.inr (.inr (.inr ⟨by omega, hf⟩))))
theorem ch_sg {n i c : Nat} (h : c = 45 → i ≠ 0 ∧ i + 1 ≠ n) : chB n i c = sgB c := by
  unfold chB sgB
  by_cases h3 : c = 45
  · have := h h3; simp [h3, this]
  · simp [h3]
theorem nm_yes {s : ByteArray} (h1 : 1 ≤ s.size) (h2 : s.size ≤ 32) (ha : ∀ (i : Nat) (h : i < s.size), chB s.size i s[i].toNat = true) : nmB s = true := by
  have : nmAll s := ha
  simp [nmB, this, h1, h2]
theorem nm_no {s : ByteArray} {i : Nat} (h : i < s.size) (hc : chB s.size i s[i].toNat = false) : nmB s = false := by
  unfold nmB
  rw [Bool.and_eq_false_iff]
  left
  rw [decide_eq_false_iff_not]
  intro ha
  have := ha i h
  rw [hc] at this
  cases this
theorem nm_size {s : ByteArray} (h : s.size = 0 ∨ 32 < s.size) : nmB s = false := by
  unfold nmB
  rw [Bool.and_eq_false_iff]
  right
  rcases h with h | h
  · simp [h]
  · simp; omega
end Go.Proofs.Ytkpklnalfomcbaa
end
section
namespace Go.Proofs.Ytkpklnalfomcbaa
open Go.RowKit Go.Proofs.Mem
set_option linter.unusedVariables false
set_option linter.unusedSimpArgs false
set_option maxHeartbeats 1000000 in
theorem sign_any (c : Nat) (w : World) : Calls Try.prog 51 #[.int .u8 c] w fun e w' => e = .returned (.bool (sgB c)) ∧ w = w' := by
  rcases sg_cases c with ⟨h1, h2, h3⟩ | ⟨h1, h2, h3⟩ | ⟨h1, h3⟩ | ⟨h1, h2, h3⟩ | ⟨h1, h2, h3⟩ | ⟨h1, h3⟩
  all_goals rw [h3]; clear h3
  · have g1 : (97 : Int) ≤ (c : Int) := by omega
    have g2 : (c : Int) ≤ 122 := by omega
    clear h1 h2
    go_enter Try.func51, Try.ntmps51
    go_wp2_with fail
    go_ret
    exact ⟨rfl, rfl⟩
  · have g1 : (48 : Int) ≤ (c : Int) := by omega
    have g2 : (c : Int) ≤ 57 := by omega
    clear h1 h2
    go_enter Try.func51, Try.ntmps51
    go_wp2_with fail
    go_ret
    exact ⟨rfl, rfl⟩
  · subst h1
    go_enter Try.func51, Try.ntmps51
    go_wp2_with fail
    go_ret
    exact ⟨rfl, rfl⟩
  · have g1 : (c : Int) < 48 := by omega
    have g2 : ((c : Int) == 45) = false := by rw [beq_eq_false_iff_ne]; omega
    clear h1 h2
    go_enter Try.func51, Try.ntmps51
    go_wp2_with fail
    go_ret
    exact ⟨rfl, rfl⟩
  · have g1 : (58 : Int) ≤ (c : Int) := by omega
    have g3 : (c : Int) < 97 := by omega
    have g4 : decide ((c : Int) ≤ 57) = false := by rw [decide_eq_false_iff_not]; omega
    have g2 : ((c : Int) == 45) = false := by rw [beq_eq_false_iff_ne]; omega
    clear h1 h2
    go_enter Try.func51, Try.ntmps51
    go_wp2_with fail
    go_ret
    exact ⟨rfl, rfl⟩
  · have g1 : (122 : Int) < (c : Int) := by omega
    have g4 : decide ((c : Int) ≤ 57) = false := by rw [decide_eq_false_iff_not]; omega
    have g5 : decide ((c : Int) ≤ 122) = false := by rw [decide_eq_false_iff_not]; omega
    have g2 : ((c : Int) == 45) = false := by rw [beq_eq_false_iff_ne]; omega
    clear h1
    go_enter Try.func51, Try.ntmps51
    go_wp2_with fail
    go_ret
    exact ⟨rfl, rfl⟩
set_option maxHeartbeats 2000000 in
theorem lname_empty (s : ByteArray) (w : World) (h0 : s.size = 0) : Calls Try.prog 31 #[.string s] w fun e w' => e = .returned (.bool (nmB s)) ∧ w = w' := by
  rw [nm_size (.inl h0)]
  have e1 : s.toList = [] := List.eq_nil_of_length_eq_zero (by rw [ByteArray.toList_eq, Array.length_toList, ByteArray.size_data]; exact h0)
  have e2 : s.toList.isEmpty = true := by rw [e1]; rfl
  clear h0
  go_enter Try.func31, Try.ntmps31
  go_wp2_with fail
  go_ret
  exact ⟨rfl, rfl⟩
set_option maxHeartbeats 2000000 in
theorem lname_long (s : ByteArray) (w : World) (hs : s.size ≤ maxLen) (h0 : 32 < s.size) : Calls Try.prog 31 #[.string s] w fun e w' => e = .returned (.bool (nmB s)) ∧ w = w' := by
  rw [nm_size (.inr h0)]
  have e1 : s.toList.isEmpty = false := by
    rw [ByteArray.toList_eq, List.isEmpty_eq_false_iff]
    intro h
    have h2 : s.size = 0 := by rw [← ByteArray.size_data, ← Array.length_toList, h]; rfl
    omega
  unfold maxLen at hs
  have g1 : (32 : Int) < (s.size : Int) := by omega
  clear h0
  go_enter Try.func31, Try.ntmps31
  go_wp2_with fail
  go_ret
  exact ⟨rfl, rfl⟩
set_option maxHeartbeats 2000000 in
theorem lname_mid (s : ByteArray) (w : World) (h0 : 0 < s.size) (h1 : s.size ≤ 32) : Calls Try.prog 31 #[.string s] w fun e w' => e = .returned (.bool (nmB s)) ∧ w = w' := by
  have e1 : s.toList.isEmpty = false := by
    rw [ByteArray.toList_eq, List.isEmpty_eq_false_iff]
    intro h
    have h2 : s.size = 0 := by rw [← ByteArray.size_data, ← Array.length_toList, h]; rfl
    omega
  have g1 : (s.size : Int) ≤ 32 := by omega
  have g2 : (1 : Int) ≤ (s.size : Int) := by omega
  have g3 : (s.size : Int) - 1 < (s.size : Int) := by omega
  by_cases c0 : s[0].toNat = 45
  · rw [nm_no (i := 0) h0 (by rw [c0]; simp [chB])]
    have d0 : ((s[0].toNat : Int) == 45) = true := by rw [beq_iff_eq]; omega
    clear c0 h1
    go_enter Try.func31, Try.ntmps31
    go_wp2_with fail
    go_ret
    exact ⟨rfl, rfl⟩
  · have d0 : ((s[0].toNat : Int) == 45) = false := by rw [beq_eq_false_iff_ne]; omega
    by_cases c1 : (s[s.size - 1]'(by omega)).toNat = 45
    · rw [nm_no (i := s.size - 1) (by omega) (by rw [c1]; simp [chB]; omega)]
      have d1 : (((s[s.size - 1]'(by omega)).toNat : Int) == 45) = true := by rw [beq_iff_eq]; omega
      clear c0 c1
      go_enter Try.func31, Try.ntmps31
      go_wp2_with fail
      go_ret
      exact ⟨rfl, rfl⟩
    · have d1 : (((s[s.size - 1]'(by omega)).toNat : Int) == 45) = false := by rw [beq_eq_false_iff_ne]; omega
      have HC : ∀ (k : Nat) (h : k < s.size), Hid (chB s.size k s[k].toNat = sgB s[k].toNat) := fun k h => Lib.hid (ch_sg fun e => by
        constructor
        · rintro rfl; exact c0 e
        · intro e2
          obtain rfl : k = s.size - 1 := by omega
          exact c1 e)
      obtain ⟨q, hq⟩ : ∃ q, q = nmB s := ⟨_, rfl⟩
      rw [← hq]
      have HQ := Lib.hid hq
      clear hq c0 c1
      go_enter Try.func31, Try.ntmps31
      go_wp2_with fail
      go_loop [26] (fun i => ∃ k : Nat, k ≤ s.size ∧ i = .int .i64 k ∧ Hid (∀ (j : Nat) (h : j < s.size), j < k → chB s.size j s[j].toNat = true)) (fun i => s.size - (intOf i).toNat)
      case atStart => exact ⟨0, Nat.zero_le _, rfl, Lib.hid (fun j h hj => absurd hj (by omega))⟩
      case round =>
        obtain ⟨k, hk, rfl, hall⟩ := hrel
        by_cases hlt : k < s.size
        · have hch := HC k hlt
          have CS := Lib.hid (fun w => sign_any s[k].toNat w)
          by_cases hs : sgB s[k].toNat = true
          · have hN : Hid (∀ (j : Nat) (h : j < s.size), j < k + 1 → chB s.size j s[j].toNat = true) := Lib.hid (fun j h hj => by
              by_cases hjk : j = k
              · subst hjk; rw [hch.out]; exact hs
              · exact hall.out j h (by omega))
            rw [hs] at CS
            clear hall hch hs HC d0 d1
            go_wp2_with fail
            refine (CS.out _).mono ?_
            rintro e w' ⟨rfl, rfl⟩
            go_wp2_with fail
            exact ⟨⟨k + 1, by omega, by go_num, hN⟩, by simp [intOf]; omega⟩
          · have hs : sgB s[k].toNat = false := by simpa using hs
            have hF : Hid (q = false) := Lib.hid (by rw [HQ.out]; exact nm_no hlt (by rw [hch.out]; exact hs))
            rw [hs] at CS
            clear hall hch hs HC d0 d1
            go_wp2_with fail
            refine (CS.out _).mono ?_
            rintro e w' ⟨rfl, rfl⟩
            go_wp2_with fail
            go_ret
            exact ⟨by rw [hF.out]; rfl, rfl⟩
        · have hT : Hid (q = true) := Lib.hid (by rw [HQ.out]; exact nm_yes (by omega) h1 (fun j h => hall.out j h (by omega)))
          clear hall HC d0 d1
          go_wp2_with fail
          go_ret
          exact ⟨by rw [hT.out]; rfl, rfl⟩
theorem lname_any (s : ByteArray) (w : World) (hs : s.size ≤ maxLen) : Calls Try.prog 31 #[.string s] w fun e w' => e = .returned (.bool (nmB s)) ∧ w = w' := by
  by_cases h0 : s.size = 0
  · exact lname_empty s w h0
  · by_cases h1 : 32 < s.size
    · exact lname_long s w hs h1
    · exact lname_mid s w (by omega) (by omega)
end Go.Proofs.Ytkpklnalfomcbaa
end
section
namespace Go.Proofs.Ytkpklnalfomcbaa
open Go.RowKit Go.Proofs.Mem
set_option linter.unusedVariables false
set_option linter.unusedSimpArgs false
set_option maxHeartbeats 2000000 in
set_option maxRecDepth 100000 in
theorem name_any (s : ByteArray) (w : World) (hs : wfs s) :
    Calls Try.prog 21 #[.string s] w fun e w' => e = .returned (.bool (nmB s)) ∧ w = w' := by
  have hl : s.size ≤ 9223372036854775807 := by
    have := Nat.le_trans hs reach_max
    unfold maxLen at this
    omega
  obtain ⟨q, hq⟩ : ∃ q, q = nmB s := ⟨_, rfl⟩
  rw [← hq]
  have hQ := Lib.hid hq
  clear hq hs
  go_enter Try.func21, Try.ntmps21
  go_wp2_with fail
  go_loop [3, 4, 5] (fun i c b => ∃ k : Nat, k ≤ s.size ∧ i = .int .i64 k ∧ Hid (∀ (j : Nat) (h : j < s.size), j < k → chB s.size j s[j].toNat = true)) (fun i c b => s.size - (intOf i).toNat)
  case atStart => exact ⟨0, Nat.zero_le _, rfl, Lib.hid (fun j h hj => absurd hj (by omega))⟩
  case round =>
    obtain ⟨k, hk, rfl, hall⟩ := hrel
    by_cases hlt : k < s.size
    · have hN : chB s.size k s[k].toNat = true → Hid (∀ (j : Nat) (h : j < s.size), j < k + 1 → chB s.size j s[j].toNat = true) := fun e => Lib.hid (fun j h hj => by
        by_cases hjk : j = k
        · subst hjk; exact e
        · exact hall.out j h (by omega))
      have hF : chB s.size k s[k].toNat = false → Hid (q = false) := fun e => Lib.hid (by
        rw [hQ.out]
        unfold nmB
        rw [Bool.and_eq_false_iff]
        left
        rw [decide_eq_false_iff_not]
        intro h
        have := h k hlt
        rw [e] at this
        cases this)
      have hcs := ch_cases s.size k s[k].toNat
      obtain ⟨c, hc⟩ : ∃ c : Nat, c = s[k].toNat := ⟨_, rfl⟩
      rw [← hc] at hcs hN hF
      rcases hcs with ⟨h1, h2, h3⟩ | ⟨h1, h2, h3⟩ | ⟨h1, h2, h4, h3⟩ | ⟨h1, h2, h3⟩ | ⟨h1, h2, h4, h3⟩ | ⟨h1, h2, h3⟩ | ⟨h1, h2, h3⟩ | ⟨h1, h3⟩
      · replace hN := hN h3
        clear hF h3 hall
        have g1 : (97 : Int) ≤ (s[k].toNat : Int) := by omega
        have g2 : (s[k].toNat : Int) ≤ 122 := by omega
        clear hc
        go_wp2_with fail
        exact ⟨⟨k + 1, by omega, by go_num, hN⟩, by simp [intOf]; omega⟩
      · replace hN := hN h3
        clear hF h3 hall
        have g1 : (48 : Int) ≤ (s[k].toNat : Int) := by omega
        have g2 : (s[k].toNat : Int) ≤ 57 := by omega
        clear hc
        go_wp2_with fail
        exact ⟨⟨k + 1, by omega, by go_num, hN⟩, by simp [intOf]; omega⟩
      · replace hN := hN h3
        clear hF h3 hall
        have g1 : (s[k].toNat : Int) < 48 := by omega
        have g2 : ((s[k].toNat : Int) != 45) = false := by rw [bne_eq_false_iff_eq]; omega
        have g3 : ((k : Int) == 0) = false := by rw [beq_eq_false_iff_ne]; omega
        have g4 : ((k : Int) == (s.size : Int) - 1) = false := by rw [beq_eq_false_iff_ne]; omega
        clear hc
        go_wp2_with fail
        exact ⟨⟨k + 1, by omega, by go_num, hN⟩, by simp [intOf]; omega⟩
      · replace hF := hF h3
        clear hN h3 hall
        have g1 : (s[k].toNat : Int) < 48 := by omega
        have g2 : ((s[k].toNat : Int) != 45) = false := by rw [bne_eq_false_iff_eq]; omega
        subst h2
        have g3 : ((0 : Int) == 0) = true := rfl
        clear hc
        go_wp2_with fail
        go_ret
        exact ⟨by rw [hF.out]; rfl, rfl⟩
      · replace hF := hF h3
        clear hN h3 hall
        have g1 : (s[k].toNat : Int) < 48 := by omega
        have g2 : ((s[k].toNat : Int) != 45) = false := by rw [bne_eq_false_iff_eq]; omega
        have g3 : ((k : Int) == 0) = false := by rw [beq_eq_false_iff_ne]; omega
        have g4 : (s.size : Int) - 1 ≤ (k : Int) := by omega
        clear hc h4
        go_wp2_with fail
        go_ret
        exact ⟨by rw [hF.out]; rfl, rfl⟩
      · replace hF := hF h3
        clear hN h3 hall
        have g1 : (s[k].toNat : Int) < 48 := by omega
        have g2 : ((s[k].toNat : Int) != 45) = true := by rw [bne_iff_ne]; omega
        clear hc
        go_wp2_with fail
        go_ret
        exact ⟨by rw [hF.out]; rfl, rfl⟩
      · replace hF := hF h3
        clear hN h3 hall
        have g1 : (58 : Int) ≤ (s[k].toNat : Int) := by omega
        have g3 : (s[k].toNat : Int) < 97 := by omega
        have g4 : decide ((s[k].toNat : Int) ≤ 57) = false := by rw [decide_eq_false_iff_not]; omega
        have g2 : ((s[k].toNat : Int) != 45) = true := by rw [bne_iff_ne]; omega
        clear hc
        go_wp2_with fail
        go_ret
        exact ⟨by rw [hF.out]; rfl, rfl⟩
      · replace hF := hF h3
        clear hN h3 hall
        have g1 : (122 : Int) < (s[k].toNat : Int) := by omega
        have g4 : decide ((s[k].toNat : Int) ≤ 57) = false := by rw [decide_eq_false_iff_not]; omega
        have g5 : decide ((s[k].toNat : Int) ≤ 122) = false := by rw [decide_eq_false_iff_not]; omega
        have g2 : ((s[k].toNat : Int) != 45) = true := by rw [bne_iff_ne]; omega
        clear hc
        go_wp2_with fail
        go_ret
        exact ⟨by rw [hF.out]; rfl, rfl⟩
    · have ha : nmAll s := fun j h => hall.out j h (by omega)
      have hcase : (((1 : Int) ≤ (s.size : Int) ∧ (s.size : Int) ≤ 32) ∧ Hid (q = true)) ∨ ((s.size : Int) < 1 ∧ Hid (q = false)) ∨ (((1 : Int) ≤ (s.size : Int) ∧ 32 < (s.size : Int)) ∧ Hid (q = false)) := by
        by_cases e1 : 1 ≤ s.size
        · by_cases e2 : s.size ≤ 32
          · exact .inl ⟨⟨by omega, by omega⟩, Lib.hid (by rw [hQ.out]; simp [nmB, ha, e1, e2])⟩
          · exact .inr (.inr ⟨⟨by omega, by omega⟩, Lib.hid (by rw [hQ.out]; simp [nmB, e2])⟩)
        · exact .inr (.inl ⟨by omega, Lib.hid (by rw [hQ.out]; simp [nmB, e1])⟩)
      clear hall ha hQ
      rcases hcase with ⟨⟨g1, g2⟩, hF⟩ | ⟨g1, hF⟩ | ⟨⟨g1, g2⟩, hF⟩
      all_goals
        go_wp2_with fail
        go_ret
        exact ⟨by rw [hF.out]; first | rfl | (show Ending.returned (.bool (decide ((s.size : Int) ≤ 32))) = _; first | rw [decide_eq_true (by omega)] | rw [decide_eq_false (by omega)]), rfl⟩
end Go.Proofs.Ytkpklnalfomcbaa
end
section
namespace Go.Proofs.Ytkpklnalfomcbaa
open Go.RowKit Go.Proofs.Mem
set_option linter.unusedVariables false
set_option linter.unusedSimpArgs false
def lessB (a b : ByteArray) : Bool := Op.bytesLess a.toList b.toList
def kvB (k v : ByteArray) : Bool := nmB k && (decide (v = ByteArray.empty) || nmB v)
def rtAll (l : List Lab) : Prop := ∀ (i : Nat) (h : i < l.length), kvB l[i].key l[i].value = true ∧ ∀ (j : Nat) (hj : j < i), lessB (l[j]'(by omega)).key l[i].key = true
instance (l : List Lab) : Decidable (rtAll l) := by unfold rtAll; infer_instance
def rtB (l : List Lab) : Bool := decide (rtAll l) && decide (l.length ≤ 8)
theorem kv_cases (k v : ByteArray) : (nmB k = false ∧ kvB k v = false) ∨ (nmB k = true ∧ v = ByteArray.empty ∧ kvB k v = true) ∨ (nmB k = true ∧ v ≠ ByteArray.empty ∧ nmB v = true ∧ kvB k v = true) ∨ (nmB k = true ∧ v ≠ ByteArray.empty ∧ nmB v = false ∧ kvB k v = false) := by
  unfold kvB
  cases h1 : nmB k
  · left; simp
  · by_cases h2 : v = ByteArray.empty
    · right; left; exact ⟨rfl, h2, by simp [h2]⟩
    · cases h3 : nmB v
      · right; right; right; exact ⟨rfl, h2, rfl, by simp [h2]⟩
      · right; right; left; exact ⟨rfl, h2, rfl, by simp⟩
theorem str_ne' {s : ByteArray} (h : s ≠ ByteArray.empty) : (s.toList == ([] : List UInt8)) = false := by
  cases e : s.toList == ([] : List UInt8)
  · rfl
  · exfalso
    apply h
    have e' : s.toList = [] := by simpa using e
    rw [ByteArray.toList_eq] at e'
    apply ByteArray.ext
    apply Array.toList_inj.1
    rw [e']
    rfl
set_option maxHeartbeats 4000000 in
set_option maxRecDepth 100000 in
theorem right5_any (r : Row Lab) (w : World) (hr : LabsOk w r) :
    Calls Try.prog 40 #[r.v] w fun e w' => e = .returned (.bool (rtB r.l)) ∧ Below w.heap.size w w' := by
  obtain ⟨v, l⟩ := r
  obtain ⟨h, hr2, hwf⟩ := hr
  simp only at h hr2 hwf ⊢
  obtain ⟨A, c, rfl, hc, _⟩ := id h
  have hl : l.length ≤ 9223372036854775807 := by
    have := Nat.le_trans hr2 reach_max
    unfold maxLen at this
    omega
  clear hr2
  obtain ⟨q, hq⟩ : ∃ q, q = rtB l := ⟨_, rfl⟩
  rw [← hq]
  have hQ := Lib.hid hq
  clear hq
  go_enter Try.func40, Try.ntmps40
  go_wp2_with fail
  go_loopw [7, 3, 4] (fun i p s wr => ∃ k : Nat, k ≤ l.length ∧ i = .int .i64 k ∧ Below w.heap.size w wr ∧ Hid (∀ (i : Nat) (h : i < l.length), i < k → kvB l[i].key l[i].value = true ∧ ∀ (j : Nat) (hj : j < i), lessB (l[j]'(by omega)).key l[i].key = true)) (fun i p s wr => l.length - (intOf i).toNat)
  case atStart => exact ⟨0, Nat.zero_le _, rfl, Below.refl _ _, Lib.hid (fun i h hi => absurd hi (by omega))⟩
  case round =>
    obtain ⟨k, hk, rfl, hB, hall⟩ := hrel
    by_cases hlt : k < l.length
    · obtain ⟨b, o, rfl, hbl, hadd, hcell⟩ := Sl.row' (s := 2) (f := Lab.cells) (fun _ => rfl) (by omega) (h.below hB) k hlt
      have a0 : wr.cell? ⟨b, o + k * 2, none⟩ = some (.string l[k].key) := hcell 0 _ rfl
      have a1 : wr.cell? ⟨b, o + k * 2 + 1, none⟩ = some (.string l[k].value) := hcell 1 _ rfl
      obtain ⟨wk, wv⟩ := hwf _ (List.getElem_mem hlt)
      have hcs := kv_cases l[k].key l[k].value
      have C1 := Lib.hid (fun w1 => name_any l[k].key w1 wk)
      have C2 := Lib.hid (fun w1 => name_any l[k].value w1 wv)
      have hF : kvB l[k].key l[k].value = false → Hid (q = false) := fun e => Lib.hid (by
        rw [hQ.out]
        unfold rtB
        rw [Bool.and_eq_false_iff]
        left
        rw [decide_eq_false_iff_not]
        intro hh
        have := (hh k hlt).1
        rw [e] at this
        cases this)
      clear hcell
      obtain ⟨key, hkey⟩ : ∃ key, key = l[k].key := ⟨_, rfl⟩
      obtain ⟨value, hvalue⟩ : ∃ value, value = l[k].value := ⟨_, rfl⟩
      have HK := Lib.hid hkey
      have HV := Lib.hid hvalue
      rw [← hkey] at a0 C1 hcs hF
      rw [← hvalue] at a1 C2 hcs hF
      clear hkey hvalue wk wv
      have i0 : (0 : Int) ≤ (k : Int) := by omega
      have i1 : (k : Int) < (l.length : Int) := by omega
      rcases hcs with ⟨h1, h3⟩ | ⟨h1, h2, h3⟩ | ⟨h1, h2, h4, h3⟩ | ⟨h1, h2, h4, h3⟩
      · rw [h1] at C1
        replace hF := hF h3
        clear h1 h3 C2 hall
        go_wp2_with fail
        refine (C1.out _).mono ?_
        rintro e w1 ⟨rfl, rfl⟩
        go_wp2_with fail
        go_ret
        exact ⟨by rw [hF.out]; rfl, hB⟩
      · subst h2
        rw [h1] at C1
        have HG := Lib.hid h3
        clear hF h1 h3 C2
        go_wp2_with fail
        refine (C1.out _).mono ?_
        rintro e w1 ⟨rfl, rfl⟩
        go_wp2_with fail
        obtain ⟨W1, hW1⟩ : ∃ W1, W1 = wr := ⟨_, rfl⟩
        subst hW1
        go_loopw [4] (fun s wq => ∃ m : Nat, m ≤ k ∧ s = .int .i64 m ∧ Below W1.heap.size W1 wq ∧ Hid (∀ (j : Nat) (hj : j < m) (hjl : j < l.length), lessB l[j].key key = true)) (fun s wq => k - (intOf s).toNat)
        case atStart => exact ⟨0, Nat.zero_le _, rfl, Below.refl _ _, Lib.hid (fun j hj => absurd hj (by omega))⟩
        case round =>
          obtain ⟨m, hm, rfl, hBq, hin⟩ := hrel
          by_cases hmk : m < k
          · obtain ⟨b', o', e', _, _, hcell⟩ := Sl.row' (s := 2) (f := Lab.cells) (fun _ => rfl) (by omega) (h.below (hB.trans (hBq.mono hB.size))) m (by omega)
            injection e' with e'
            injection e' with e1 e2
            subst e1; subst e2
            have b0 : wr.cell? ⟨b, o + m * 2, none⟩ = some (.string l[m].key) := hcell 0 _ rfl
            have d0 := keep_cell hBq a0
            obtain ⟨r, hr⟩ : ∃ r, lessB l[m].key key = !r := ⟨!lessB l[m].key key, by simp⟩
            have hge : Op.bytesLess l[m].key.toList key.toList = !r := hr
            have j0 : (0 : Int) ≤ (m : Int) := by omega
            have j1 : (m : Int) < (l.length : Int) := by omega
            have hN : r = false → Hid (∀ (j : Nat) (hj : j < m + 1) (hjl : j < l.length), lessB l[j].key key = true) := fun e => Lib.hid (fun j hj hjl => by
              by_cases hjm : j = m
              · subst hjm; rw [hr, e]; rfl
              · exact hin.out j (by omega) hjl)
            have hF2 : r = true → Hid (q = false) := fun e => Lib.hid (by
              rw [hQ.out]
              unfold rtB
              rw [Bool.and_eq_false_iff]
              left
              rw [decide_eq_false_iff_not]
              intro hh
              have := (hh k hlt).2 m hmk
              rw [← HK.out, hr, e] at this
              cases this)
            clear hcell hr hin
            generalize l[m].key = mk at b0 hge
            cases r
            · replace hN := hN rfl
              clear hF2
              go_wp2_with fail
              go_quiet (fail)
              go_wp2_with fail
              exact ⟨⟨m + 1, by omega, by go_num, below_drewN hBq _, hN⟩, by simp [intOf]; omega⟩
            · replace hF2 := hF2 rfl
              clear hN
              go_wp2_with fail
              go_quiet (fail)
              go_wp2_with fail
              go_ret
              exact ⟨by rw [hF2.out]; rfl, below_drewN (hB.trans (hBq.mono hB.size)) _⟩
          · have HN : Hid (∀ (i : Nat) (h : i < l.length), i < k + 1 → kvB l[i].key l[i].value = true ∧ ∀ (j : Nat) (hj : j < i), lessB (l[j]'(by omega)).key l[i].key = true) := Lib.hid (fun i hi hik => by
              by_cases hie : i = k
              · subst hie
                refine ⟨by rw [← HK.out, ← HV.out]; exact HG.out, fun j hj => ?_⟩
                rw [← HK.out]
                exact hin.out j (by omega) (by omega)
              · exact hall.out i hi (by omega))
            clear hin hall
            go_wp2_with fail
            exact ⟨⟨k + 1, by omega, by go_num, hB.trans (hBq.mono hB.size), HN⟩, by simp [intOf]; omega⟩
      · have hnd := str_ne' h2
        rw [h1] at C1
        rw [h4] at C2
        have HG := Lib.hid h3
        clear hF h1 h3 h2 h4
        go_wp2_with fail
        refine (C1.out _).mono ?_
        rintro e w1 ⟨rfl, rfl⟩
        go_wp2_with fail
        refine (C2.out _).mono ?_
        rintro e w1 ⟨rfl, rfl⟩
        go_wp2_with fail
        obtain ⟨W1, hW1⟩ : ∃ W1, W1 = wr := ⟨_, rfl⟩
        subst hW1
        go_loopw [4] (fun s wq => ∃ m : Nat, m ≤ k ∧ s = .int .i64 m ∧ Below W1.heap.size W1 wq ∧ Hid (∀ (j : Nat) (hj : j < m) (hjl : j < l.length), lessB l[j].key key = true)) (fun s wq => k - (intOf s).toNat)
        case atStart => exact ⟨0, Nat.zero_le _, rfl, Below.refl _ _, Lib.hid (fun j hj => absurd hj (by omega))⟩
        case round =>
          obtain ⟨m, hm, rfl, hBq, hin⟩ := hrel
          by_cases hmk : m < k
          · obtain ⟨b', o', e', _, _, hcell⟩ := Sl.row' (s := 2) (f := Lab.cells) (fun _ => rfl) (by omega) (h.below (hB.trans (hBq.mono hB.size))) m (by omega)
            injection e' with e'
            injection e' with e1 e2
            subst e1; subst e2
            have b0 : wr.cell? ⟨b, o + m * 2, none⟩ = some (.string l[m].key) := hcell 0 _ rfl
            have d0 := keep_cell hBq a0
            obtain ⟨r, hr⟩ : ∃ r, lessB l[m].key key = !r := ⟨!lessB l[m].key key, by simp⟩
            have hge : Op.bytesLess l[m].key.toList key.toList = !r := hr
            have j0 : (0 : Int) ≤ (m : Int) := by omega
            have j1 : (m : Int) < (l.length : Int) := by omega
            have hN : r = false → Hid (∀ (j : Nat) (hj : j < m + 1) (hjl : j < l.length), lessB l[j].key key = true) := fun e => Lib.hid (fun j hj hjl => by
              by_cases hjm : j = m
              · subst hjm; rw [hr, e]; rfl
              · exact hin.out j (by omega) hjl)
            have hF2 : r = true → Hid (q = false) := fun e => Lib.hid (by
              rw [hQ.out]
              unfold rtB
              rw [Bool.and_eq_false_iff]
              left
              rw [decide_eq_false_iff_not]
              intro hh
              have := (hh k hlt).2 m hmk
              rw [← HK.out, hr, e] at this
              cases this)
            clear hcell hr hin
            generalize l[m].key = mk at b0 hge
            cases r
            · replace hN := hN rfl
              clear hF2
              go_wp2_with fail
              go_quiet (fail)
              go_wp2_with fail
              exact ⟨⟨m + 1, by omega, by go_num, below_drewN hBq _, hN⟩, by simp [intOf]; omega⟩
            · replace hF2 := hF2 rfl
              clear hN
              go_wp2_with fail
              go_quiet (fail)
              go_wp2_with fail
              go_ret
              exact ⟨by rw [hF2.out]; rfl, below_drewN (hB.trans (hBq.mono hB.size)) _⟩
          · have HN : Hid (∀ (i : Nat) (h : i < l.length), i < k + 1 → kvB l[i].key l[i].value = true ∧ ∀ (j : Nat) (hj : j < i), lessB (l[j]'(by omega)).key l[i].key = true) := Lib.hid (fun i hi hik => by
              by_cases hie : i = k
              · subst hie
                refine ⟨by rw [← HK.out, ← HV.out]; exact HG.out, fun j hj => ?_⟩
                rw [← HK.out]
                exact hin.out j (by omega) (by omega)
              · exact hall.out i hi (by omega))
            clear hin hall
            go_wp2_with fail
            exact ⟨⟨k + 1, by omega, by go_num, hB.trans (hBq.mono hB.size), HN⟩, by simp [intOf]; omega⟩
      · have hnd := str_ne' h2
        rw [h1] at C1
        rw [h4] at C2
        replace hF := hF h3
        clear h1 h3 h2 h4 hall
        go_wp2_with fail
        refine (C1.out _).mono ?_
        rintro e w1 ⟨rfl, rfl⟩
        go_wp2_with fail
        refine (C2.out _).mono ?_
        rintro e w1 ⟨rfl, rfl⟩
        go_wp2_with fail
        go_ret
        exact ⟨by rw [hF.out]; rfl, hB⟩
    · have ha : rtAll l := fun i hi => hall.out i hi (by omega)
      have hz : (((l.length : Nat) : Int) ≤ 8 ∧ Hid (q = true)) ∨ ((8 : Int) < ((l.length : Nat) : Int) ∧ Hid (q = false)) := by
        by_cases e : l.length ≤ 8
        · exact .inl ⟨by omega, Lib.hid (by rw [hQ.out]; simp [rtB, ha, e])⟩
        · exact .inr ⟨by omega, Lib.hid (by rw [hQ.out]; simp [rtB, e])⟩
      clear hall ha hQ hwf
      rcases hz with ⟨hz, hq⟩ | ⟨hz, hq⟩
      all_goals
        go_wp2_with fail
        go_ret
        exact ⟨by rw [hq.out]; first | rfl | (show Ending.returned (.bool (decide ((l.length : Int) ≤ 8))) = _; first | rw [decide_eq_true (by omega)] | rw [decide_eq_false (by omega)]), hB⟩
end Go.Proofs.Ytkpklnalfomcbaa
end
section
namespace Go.Proofs.Ytkpklnalfomcbaa
open Go.RowKit Go.Proofs.Mem
set_option linter.unusedVariables false
set_option linter.unusedSimpArgs false
def rqB (x : Req) : Bool := kvB x.key x.value && (decide (x.op = 0 ∨ x.op = 1) || (decide (x.op = 2 ∨ x.op = 3) && decide (x.value = ByteArray.empty)))
def aksB (l : List Req) : Bool := l.all rqB && decide (l.length ≤ 8)
def opOk (op : Int) (e : Bool) : Bool := decide (op = 0 ∨ op = 1) || (decide (op = 2 ∨ op = 3) && e)
theorem op_cases (op : Int) (e : Bool) : (op = 0 ∧ opOk op e = true) ∨ (op = 1 ∧ opOk op e = true) ∨ (op = 2 ∧ opOk op e = e) ∨ (op = 3 ∧ opOk op e = e) ∨ (((op == 0) = false ∧ (op == 1) = false ∧ (op == 2) = false ∧ (op == 3) = false) ∧ opOk op e = false) := by
  by_cases h0 : op = 0
  · left; exact ⟨h0, by simp [opOk, h0]⟩
  · by_cases h1 : op = 1
    · right; left; exact ⟨h1, by simp [opOk, h1]⟩
    · by_cases h2 : op = 2
      · right; right; left; exact ⟨h2, by simp [opOk, h2]⟩
      · by_cases h3 : op = 3
        · right; right; right; left; exact ⟨h3, by simp [opOk, h3]⟩
        · right; right; right; right; exact ⟨by simp [h0, h1, h2, h3], by simp [opOk, h0, h1, h2, h3]⟩
set_option maxHeartbeats 4000000 in
set_option maxRecDepth 100000 in
theorem asks5_any (r : Row Req) (w : World) (hr : ReqsOk w r) :
    Calls Try.prog 55 #[r.v] w fun e w' => e = .returned (.bool (aksB r.l)) ∧ Below w.heap.size w w' := by
  obtain ⟨v, l⟩ := r
  obtain ⟨h, hr2, hwf⟩ := hr
  simp only at h hr2 hwf ⊢
  obtain ⟨A, c, rfl, hc, _⟩ := id h
  have hl : l.length ≤ 9223372036854775807 := by
    have := Nat.le_trans hr2 reach_max
    unfold maxLen at this
    omega
  clear hr2
  obtain ⟨q, hq⟩ : ∃ q, q = aksB l := ⟨_, rfl⟩
  rw [← hq]
  have hQ := Lib.hid hq
  clear hq
  go_enter Try.func55, Try.ntmps55
  go_wp2_with fail
  go_loopw [7, 4] (fun i p wr => ∃ k : Nat, k ≤ l.length ∧ i = .int .i64 k ∧ Below w.heap.size w wr ∧ Hid (∀ y ∈ l.take k, rqB y = true)) (fun i p wr => l.length - (intOf i).toNat)
  case atStart => exact ⟨0, Nat.zero_le _, rfl, Below.refl _ _, Lib.hid (by simp)⟩
  case round =>
    obtain ⟨k, hk, rfl, hB, hall⟩ := hrel
    by_cases hlt : k < l.length
    · obtain ⟨b, o, rfl, hbl, hadd, hcell⟩ := Sl.row' (s := 3) (f := Req.cells) (fun _ => rfl) (by omega) (h.below hB) k hlt
      have a0 : wr.cell? ⟨b, o + k * 3, none⟩ = _ := hcell 0 _ rfl
      have a1 := hcell 1 _ rfl
      have a2 := hcell 2 _ rfl
      obtain ⟨wk, wv, _⟩ := hwf _ (List.getElem_mem hlt)
      have hN : rqB l[k] = true → Hid (∀ y ∈ l.take (k + 1), rqB y = true) := fun e => Lib.hid (by
        intro y hy
        rw [List.take_succ_eq_append_getElem hlt] at hy
        rcases List.mem_append.1 hy with hy | hy
        · exact hall.out y hy
        · simp at hy; subst hy; exact e)
      have hF : rqB l[k] = false → Hid (q = false) := fun e => Lib.hid (by
        rw [hQ.out]
        unfold aksB
        rw [Bool.and_eq_false_iff]
        left
        rw [List.all_eq_false]
        exact ⟨l[k], List.getElem_mem hlt, by rw [e]; decide⟩)
      clear hcell hall
      generalize l[k] = x at a0 a1 a2 wk wv hN hF
      obtain ⟨key, value, op⟩ := x
      simp only at a0 a1 a2 wk wv
      have hcs := kv_cases key value
      have C1 := Lib.hid (fun w1 => name_any key w1 wk)
      have C2 := Lib.hid (fun w1 => name_any value w1 wv)
      clear wk wv
      rcases hcs with ⟨h1, h3⟩ | ⟨h1, h2, h3⟩ | ⟨h1, h2, h4, h3⟩ | ⟨h1, h2, h4, h3⟩
      · rw [h1] at C1
        replace hF := hF (by simp [rqB, h3])
        clear h1 h3 C2 hN
        go_wp2_with fail
        refine (C1.out _).mono ?_
        rintro e w1 ⟨rfl, rfl⟩
        go_wp2_with fail
        go_ret
        exact ⟨by rw [hF.out]; rfl, hB.alloc hB.size _⟩
      · subst h2
        rw [h1] at C1
        have hr : rqB ⟨key, ByteArray.empty, op⟩ = opOk op true := by simp [rqB, h3, opOk]
        rw [hr] at hN hF
        clear hr h1 h3 C2
        rcases op_cases op true with ⟨rfl, h5⟩ | ⟨rfl, h5⟩ | ⟨rfl, h5⟩ | ⟨rfl, h5⟩ | ⟨⟨o0, o1, o2, o3⟩, h5⟩
        · replace hN := hN h5
          clear hF h5
          go_wp2_with fail
          refine (C1.out _).mono ?_
          rintro e w1 ⟨rfl, rfl⟩
          go_wp2_with fail
          exact ⟨⟨k + 1, by omega, by go_num, hB.alloc hB.size _, hN⟩, by simp [intOf]; omega⟩
        · replace hN := hN h5
          clear hF h5
          go_wp2_with fail
          refine (C1.out _).mono ?_
          rintro e w1 ⟨rfl, rfl⟩
          go_wp2_with fail
          exact ⟨⟨k + 1, by omega, by go_num, hB.alloc hB.size _, hN⟩, by simp [intOf]; omega⟩
        · replace hN := hN h5
          clear hF h5
          go_wp2_with fail
          refine (C1.out _).mono ?_
          rintro e w1 ⟨rfl, rfl⟩
          go_wp2_with fail
          exact ⟨⟨k + 1, by omega, by go_num, hB.alloc hB.size _, hN⟩, by simp [intOf]; omega⟩
        · replace hN := hN h5
          clear hF h5
          go_wp2_with fail
          refine (C1.out _).mono ?_
          rintro e w1 ⟨rfl, rfl⟩
          go_wp2_with fail
          exact ⟨⟨k + 1, by omega, by go_num, hB.alloc hB.size _, hN⟩, by simp [intOf]; omega⟩
        · replace hF := hF h5
          clear hN h5
          go_wp2_with fail
          refine (C1.out _).mono ?_
          rintro e w1 ⟨rfl, rfl⟩
          go_wp2_with fail
          go_ret
          exact ⟨by rw [hF.out]; rfl, hB.alloc hB.size _⟩
      · have hnd := str_ne' h2
        rw [h1] at C1
        rw [h4] at C2
        have hr : rqB ⟨key, value, op⟩ = opOk op false := by simp [rqB, h3, opOk, h2]
        rw [hr] at hN hF
        clear hr h1 h3 h2 h4
        rcases op_cases op false with ⟨rfl, h5⟩ | ⟨rfl, h5⟩ | ⟨rfl, h5⟩ | ⟨rfl, h5⟩ | ⟨⟨o0, o1, o2, o3⟩, h5⟩
        · replace hN := hN h5
          clear hF h5
          go_wp2_with fail
          refine (C1.out _).mono ?_
          rintro e w1 ⟨rfl, rfl⟩
          go_wp2_with fail
          refine (C2.out _).mono ?_
          rintro e w1 ⟨rfl, rfl⟩
          go_wp2_with fail
          exact ⟨⟨k + 1, by omega, by go_num, hB.alloc hB.size _, hN⟩, by simp [intOf]; omega⟩
        · replace hN := hN h5
          clear hF h5
          go_wp2_with fail
          refine (C1.out _).mono ?_
          rintro e w1 ⟨rfl, rfl⟩
          go_wp2_with fail
          refine (C2.out _).mono ?_
          rintro e w1 ⟨rfl, rfl⟩
          go_wp2_with fail
          exact ⟨⟨k + 1, by omega, by go_num, hB.alloc hB.size _, hN⟩, by simp [intOf]; omega⟩
        all_goals
          replace hF := hF h5
          clear hN h5
          go_wp2_with fail
          refine (C1.out _).mono ?_
          rintro e w1 ⟨rfl, rfl⟩
          go_wp2_with fail
          refine (C2.out _).mono ?_
          rintro e w1 ⟨rfl, rfl⟩
          go_wp2_with fail
          go_ret
          exact ⟨by rw [hF.out]; rfl, hB.alloc hB.size _⟩
      · have hnd := str_ne' h2
        rw [h1] at C1
        rw [h4] at C2
        replace hF := hF (by simp [rqB, h3])
        clear h1 h3 h2 h4 hN
        go_wp2_with fail
        refine (C1.out _).mono ?_
        rintro e w1 ⟨rfl, rfl⟩
        go_wp2_with fail
        refine (C2.out _).mono ?_
        rintro e w1 ⟨rfl, rfl⟩
        go_wp2_with fail
        go_ret
        exact ⟨by rw [hF.out]; rfl, hB.alloc hB.size _⟩
    · have e : l.take k = l := List.take_of_length_le (by omega)
      rw [e] at hall
      have hall' : (l.all rqB) = true := by rw [List.all_eq_true]; exact hall.out
      have hz : (((l.length : Nat) : Int) ≤ 8 ∧ Hid (q = true)) ∨ ((8 : Int) < ((l.length : Nat) : Int) ∧ Hid (q = false)) := by
        by_cases e : l.length ≤ 8
        · exact .inl ⟨by omega, Lib.hid (by rw [hQ.out]; simp only [aksB, hall']; simp [e])⟩
        · exact .inr ⟨by omega, Lib.hid (by rw [hQ.out]; simp [aksB, e])⟩
      clear e hall hall' hQ h hwf
      rcases hz with ⟨hz, hq⟩ | ⟨hz, hq⟩
      all_goals
        go_wp2_with fail
        go_ret
        exact ⟨by rw [hq.out]; first | rfl | (show Ending.returned (.bool (decide ((l.length : Int) ≤ 8))) = _; first | rw [decide_eq_true (by omega)] | rw [decide_eq_false (by omega)]), hB⟩
end Go.Proofs.Ytkpklnalfomcbaa
end
section
namespace Go.Proofs.Ytkpklnalfomcbaa
open Go.RowKit Go.Proofs.Mem
set_option linter.unusedVariables false
set_option linter.unusedSimpArgs false
def whB (m : Int) : Bool := decide (0 ≤ m ∧ m ≤ 9007199254740992)
theorem wh_cases (m : Int) : (0 ≤ m ∧ m ≤ 9007199254740992 ∧ whB m = true) ∨ (m < 0 ∧ whB m = false) ∨ (0 ≤ m ∧ 9007199254740992 < m ∧ whB m = false) := by
  unfold whB
  by_cases h1 : 0 ≤ m
  · by_cases h2 : m ≤ 9007199254740992
    · exact .inl ⟨h1, h2, by simp [h1, h2]⟩
    · exact .inr (.inr ⟨h1, by omega, by simp [h2]⟩)
  · exact .inr (.inl ⟨by omega, by simp [h1]⟩)
set_option maxRecDepth 100000 in
theorem whole_any (m : Int) (w : World) : Calls Try.prog 42 #[.int .i64 m] w fun e w' => e = .returned (.bool (whB m)) ∧ w = w' := by
  obtain ⟨q, hq⟩ : ∃ q, q = whB m := ⟨_, rfl⟩
  rw [← hq]
  rcases wh_cases m with ⟨h1, h2, h3⟩ | ⟨h1, h3⟩ | ⟨h1, h2, h3⟩
  all_goals
    have HQ := Lib.hid (hq.trans h3)
    clear hq h3
    go_enter Try.func42, Try.ntmps42
    go_wp2_with fail
    go_ret
    exact ⟨by rw [HQ.out]; first | rfl | (show Ending.returned (.bool (decide (m ≤ 9007199254740992))) = _; first | rw [decide_eq_true (by omega)] | rw [decide_eq_false (by omega)]), rfl⟩
def szB (a b : Int) : Bool := whB a && (whB b && decide (a ≠ 0))
set_option maxRecDepth 100000 in
theorem sized_any (a b : Int) (w : World) : Calls Try.prog 39 #[.agg #[.int .i64 a, .int .i64 b]] w fun e w' => e = .returned (.bool (szB a b)) ∧ Below w.heap.size w w' := by
  have C1 := Lib.hid (fun w1 => whole_any a w1)
  have C2 := Lib.hid (fun w1 => whole_any b w1)
  obtain ⟨q, hq⟩ : ∃ q, q = szB a b := ⟨_, rfl⟩
  rw [← hq]
  unfold szB at hq
  cases h1 : whB a
  · rw [h1] at C1 hq
    have HQ : Hid (q = false) := Lib.hid (by rw [hq]; rfl)
    clear hq h1
    go_enter Try.func39, Try.ntmps39
    go_wp2_with fail
    refine (C1.out _).mono ?_
    rintro e w1 ⟨rfl, rfl⟩
    go_wp2_with fail
    go_ret
    exact ⟨by rw [HQ.out]; rfl, below_al _ _⟩
  · rw [h1] at C1 hq
    cases h2 : whB b
    · rw [h2] at C2 hq
      have HQ : Hid (q = false) := Lib.hid (by rw [hq]; rfl)
      clear hq h1 h2
      go_enter Try.func39, Try.ntmps39
      go_wp2_with fail
      refine (C1.out _).mono ?_
      rintro e w1 ⟨rfl, rfl⟩
      go_wp2_with fail
      refine (C2.out _).mono ?_
      rintro e w1 ⟨rfl, rfl⟩
      go_wp2_with fail
      go_ret
      exact ⟨by rw [HQ.out]; rfl, below_al _ _⟩
    · rw [h2] at C2 hq
      have hz : ((a != 0) = true ∧ Hid (q = true)) ∨ ((a != 0) = false ∧ Hid (q = false)) := by
        by_cases e : a = 0
        · exact .inr ⟨by simp [e], Lib.hid (by rw [hq]; simp [e])⟩
        · exact .inl ⟨by simp [e], Lib.hid (by rw [hq]; simp [e])⟩
      clear hq h1 h2
      rcases hz with ⟨hz, HQ⟩ | ⟨hz, HQ⟩
      all_goals
        go_enter Try.func39, Try.ntmps39
        go_wp2_with fail
        refine (C1.out _).mono ?_
        rintro e w1 ⟨rfl, rfl⟩
        go_wp2_with fail
        refine (C2.out _).mono ?_
        rintro e w1 ⟨rfl, rfl⟩
        go_wp2_with fail
        go_ret
        exact ⟨by rw [HQ.out]; first | rfl | (show Ending.returned (.bool (a != 0)) = _; rw [hz]), below_al _ _⟩
def wantsB (a b : Int) (l : List Lab) (s : List Req) (t : List Lab) (warm : Int) : Bool := szB a b && (rtB l && (aksB s && (rtB t && decide (0 ≤ warm ∧ warm ≤ 1800))))
set_option maxHeartbeats 2000000 in
set_option maxRecDepth 100000 in
theorem wants_any (a b : Int) (l : Row Lab) (s : Row Req) (t : Row Lab) (warm : Int) (w : World) (hl : LabsOk w l) (hs : ReqsOk w s) (ht : LabsOk w t) :
    Calls Try.prog 38 #[.agg #[.int .i64 a, .int .i64 b], l.v, s.v, t.v, .int .i64 warm] w fun e w' => e = .returned (.bool (wantsB a b l.l s.l t.l warm)) ∧ Below w.heap.size w w' := by
  have C0 := Lib.hid (fun w1 => sized_any a b w1)
  have C1 := Lib.hid (fun w1 (hb : Below w.heap.size w w1) => right5_any l w1 (hl.below hb))
  have C2 := Lib.hid (fun w1 (hb : Below w.heap.size w w1) => asks5_any s w1 (hs.below hb))
  have C3 := Lib.hid (fun w1 (hb : Below w.heap.size w w1) => right5_any t w1 (ht.below hb))
  obtain ⟨q, hq⟩ : ∃ q, q = wantsB a b l.l s.l t.l warm := ⟨_, rfl⟩
  rw [← hq]
  unfold wantsB at hq
  have hk := Bk.new w 38 #[.int .i64 a, .int .i64 b]
  clear hl hs ht
  generalize szB a b = b0 at C0 hq
  generalize rtB l.l = b1 at C1 hq
  generalize aksB s.l = b2 at C2 hq
  generalize rtB t.l = b3 at C3 hq
  generalize l.v = lv at C1 ⊢
  generalize s.v = sv at C2 ⊢
  generalize t.v = tv at C3 ⊢
  cases b0
  · have HQ : Hid (q = false) := Lib.hid (by rw [hq]; rfl)
    clear hq
    go_enter Try.func38, Try.ntmps38
    go_wp2_with fail
    refine (C0.out _).mono ?_
    rintro e w1 ⟨rfl, hb1⟩
    go_wp2_with fail
    go_ret
    exact ⟨by rw [HQ.out]; rfl, below_tr (below_al _ _) hb1⟩
  · cases b1
    · have HQ : Hid (q = false) := Lib.hid (by rw [hq]; rfl)
      clear hq
      go_enter Try.func38, Try.ntmps38
      go_wp2_with fail
      refine (C0.out _).mono ?_
      rintro e w1 ⟨rfl, hb1⟩
      have hP1 := below_tr (below_al _ _) hb1
      go_wp2_with fail
      refine (C1.out _ hP1).mono ?_
      rintro e w2 ⟨rfl, hb2⟩
      go_wp2_with fail
      go_ret
      exact ⟨by rw [HQ.out]; rfl, below_tr hP1 hb2⟩
    · cases b2
      · have HQ : Hid (q = false) := Lib.hid (by rw [hq]; rfl)
        clear hq
        go_enter Try.func38, Try.ntmps38
        go_wp2_with fail
        refine (C0.out _).mono ?_
        rintro e w1 ⟨rfl, hb1⟩
        have hP1 := below_tr (below_al _ _) hb1
        go_wp2_with fail
        refine (C1.out _ hP1).mono ?_
        rintro e w2 ⟨rfl, hb2⟩
        have hP2 := below_tr hP1 hb2
        go_wp2_with fail
        refine (C2.out _ hP2).mono ?_
        rintro e w3 ⟨rfl, hb3⟩
        go_wp2_with fail
        go_ret
        exact ⟨by rw [HQ.out]; rfl, below_tr hP2 hb3⟩
      · have hz : (b3 = false ∧ Hid (q = false)) ∨ (b3 = true ∧ warm < 0 ∧ Hid (q = false)) ∨ (b3 = true ∧ 0 ≤ warm ∧ warm ≤ 1800 ∧ Hid (q = true)) ∨ (b3 = true ∧ 0 ≤ warm ∧ 1800 < warm ∧ Hid (q = false)) := by
          cases b3
          · exact .inl ⟨rfl, Lib.hid (by rw [hq]; rfl)⟩
          · by_cases e1 : 0 ≤ warm
            · by_cases e2 : warm ≤ 1800
              · exact .inr (.inr (.inl ⟨rfl, e1, e2, Lib.hid (by rw [hq]; simp [e1, e2])⟩))
              · exact .inr (.inr (.inr ⟨rfl, e1, by omega, Lib.hid (by rw [hq]; simp [e2])⟩))
            · exact .inr (.inl ⟨rfl, by omega, Lib.hid (by rw [hq]; simp [e1])⟩)
        clear hq
        rcases hz with ⟨rfl, HQ⟩ | ⟨rfl, z1, HQ⟩ | ⟨rfl, z1, z2, HQ⟩ | ⟨rfl, z1, z2, HQ⟩
        all_goals
          go_enter Try.func38, Try.ntmps38
          go_wp2_with fail
          refine (C0.out _).mono ?_
          rintro e w1 ⟨rfl, hb1⟩
          have hP1 := below_tr (below_al _ _) hb1
          go_wp2_with fail
          refine (C1.out _ hP1).mono ?_
          rintro e w2 ⟨rfl, hb2⟩
          have hP2 := below_tr hP1 hb2
          go_wp2_with fail
          refine (C2.out _ hP2).mono ?_
          rintro e w3 ⟨rfl, hb3⟩
          have hP3 := below_tr hP2 hb3
          go_wp2_with fail
          refine (C3.out _ hP3).mono ?_
          rintro e w4 ⟨rfl, hb4⟩
          go_wp2_with fail
          go_ret
          exact ⟨by rw [HQ.out]; first | rfl | (show Ending.returned (.bool (decide (warm ≤ 1800))) = _; first | rw [decide_eq_true (by omega)] | rw [decide_eq_false (by omega)]), below_tr hP3 hb4⟩
end Go.Proofs.Ytkpklnalfomcbaa
end
section
namespace Go.Proofs.Ytkpklnalfomcbaa
open Go.RowKit Go.Proofs.Mem
set_option linter.unusedVariables false
set_option linter.unusedSimpArgs false
def strE (s : ByteArray) : Bool := s.toList == (⟨#[]⟩ : ByteArray).toList
def addI (a b : Int) : Int := IntKind.i64.wrap (a + b)
def emW (r c m : Int) (n1 n2 n3 : Nat) (wm : Int) : Bool := (((r == 0) && ((c == 0) && (m == 0))) && (addI (addI n1 n2) n3 == 0)) && (wm == 0)
def emP (ow nd : ByteArray) (ph si c m : Int) (n1 n2 n3 : Nat) (wm : Int) : Bool := (((((strE ow && strE nd) && (ph == 0)) && (si == 0)) && ((c == 0) && (m == 0))) && (addI (addI n1 n2) n3 == 0)) && (wm == 0)
def emN (gr : ByteArray) (c m : Int) (n1 n2 : Nat) (si : Int) (cl : Bool) : Bool := (((strE gr && ((c == 0) && (m == 0))) && (addI n1 n2 == 0)) && (si == 0)) && (!cl)
def emG (mi ma ta c m : Int) (n1 n2 : Nat) (pr : Int) : Bool := (((((mi == 0) && (ma == 0)) && (ta == 0)) && ((c == 0) && (m == 0))) && (addI n1 n2 == 0)) && (pr == 0)
def emH (ta : ByteArray) (mi ma : Int) (n1 n2 : Nat) (to uw up : Int) (nu : Nat) (dw dp : Int) (nd : Nat) : Bool :=
  (((((((((strE ta && (mi == 0)) && (ma == 0)) && (addI n1 n2 == 0)) && (to == 0)) && (uw == 0)) && (up == 0)) && ((nu : Int) == 0)) && (dw == 0)) && (dp == 0)) && ((nd : Int) == 0)
def emAll (k : Int) (W P N G H : Bool) : Bool := ((((W || (k == 0)) && (P || (k == 1))) && (N || (k == 2))) && (G || (k == 3))) && (H || (k == 4))
def emptyB (o : Ob) : Bool := emAll o.kind (emW o.w.replicas o.w.cpu o.w.mem o.w.labels.l.length o.w.select.l.length o.w.tolerate.l.length o.w.warm)
  (emP o.p.owner o.p.node o.p.phase o.p.since o.p.cpu o.p.mem o.p.labels.l.length o.p.select.l.length o.p.tolerate.l.length o.p.warm)
  (emN o.n.group o.n.cpu o.n.mem o.n.labels.l.length o.n.taints.l.length o.n.since o.n.closed)
  (emG o.g.min o.g.max o.g.target o.g.cpu o.g.mem o.g.labels.l.length o.g.taints.l.length o.g.priority)
  (emH o.h.target o.h.min o.h.max o.h.metrics.l.length o.h.past.l.length o.h.tolerance o.h.up.window o.h.up.pick o.h.up.policies.l.length o.h.down.window o.h.down.pick o.h.down.policies.l.length)
set_option maxHeartbeats 8000000 in
set_option maxRecDepth 100000 in
theorem empty_any (o : Ob) (w : World) (ho : o.Ok w) :
    Calls Try.prog 37 #[.agg o.cells.toArray] w fun e w' => e = .returned (.bool (emptyB o)) ∧ Below w.heap.size w w' := by
  obtain ⟨kind, name, version, ⟨w0, w1, w2, w3, w4, w5, w6⟩, ⟨p0, p1, p2, p3, p4, p5, p6, p7, p8, p9⟩, ⟨n0, n1, n2, n3, n4, n5, n6⟩, ⟨g0, g1, g2, g3, g4, g5, g6, g7⟩, ⟨h0, h1, h2, h3, h4, ⟨h5, h6, h7⟩, ⟨h8, h9, h10⟩, h11⟩⟩ := o
  obtain ⟨vw3, lw3⟩ := w3
  have sw3 := ho.w.labels.1
  simp only at sw3
  obtain ⟨Aw3, cw3, ew3, _⟩ := id sw3
  subst ew3
  obtain ⟨nw3, hnw3⟩ : ∃ n, n = lw3.length := ⟨_, rfl⟩
  rw [← hnw3] at sw3
  obtain ⟨vw4, lw4⟩ := w4
  have sw4 := ho.w.select.1
  simp only at sw4
  obtain ⟨Aw4, cw4, ew4, _⟩ := id sw4
  subst ew4
  obtain ⟨nw4, hnw4⟩ : ∃ n, n = lw4.length := ⟨_, rfl⟩
  rw [← hnw4] at sw4
  obtain ⟨vw5, lw5⟩ := w5
  have sw5 := ho.w.tolerate.1
  simp only at sw5
  obtain ⟨Aw5, cw5, ew5, _⟩ := id sw5
  subst ew5
  obtain ⟨nw5, hnw5⟩ : ∃ n, n = lw5.length := ⟨_, rfl⟩
  rw [← hnw5] at sw5
  obtain ⟨vp6, lp6⟩ := p6
  have sp6 := ho.p.labels.1
  simp only at sp6
  obtain ⟨Ap6, cp6, ep6, _⟩ := id sp6
  subst ep6
  obtain ⟨np6, hnp6⟩ : ∃ n, n = lp6.length := ⟨_, rfl⟩
  rw [← hnp6] at sp6
  obtain ⟨vp7, lp7⟩ := p7
  have sp7 := ho.p.select.1
  simp only at sp7
  obtain ⟨Ap7, cp7, ep7, _⟩ := id sp7
  subst ep7
  obtain ⟨np7, hnp7⟩ : ∃ n, n = lp7.length := ⟨_, rfl⟩
  rw [← hnp7] at sp7
  obtain ⟨vp8, lp8⟩ := p8
  have sp8 := ho.p.tolerate.1
  simp only at sp8
  obtain ⟨Ap8, cp8, ep8, _⟩ := id sp8
  subst ep8
  obtain ⟨np8, hnp8⟩ : ∃ n, n = lp8.length := ⟨_, rfl⟩
  rw [← hnp8] at sp8
  obtain ⟨vn3, ln3⟩ := n3
  have sn3 := ho.n.labels.1
  simp only at sn3
  obtain ⟨An3, cn3, en3, _⟩ := id sn3
  subst en3
  obtain ⟨nn3, hnn3⟩ : ∃ n, n = ln3.length := ⟨_, rfl⟩
  rw [← hnn3] at sn3
  obtain ⟨vn4, ln4⟩ := n4
  have sn4 := ho.n.taints.1
  simp only at sn4
  obtain ⟨An4, cn4, en4, _⟩ := id sn4
  subst en4
  obtain ⟨nn4, hnn4⟩ : ∃ n, n = ln4.length := ⟨_, rfl⟩
  rw [← hnn4] at sn4
  obtain ⟨vg5, lg5⟩ := g5
  have sg5 := ho.g.labels.1
  simp only at sg5
  obtain ⟨Ag5, cg5, eg5, _⟩ := id sg5
  subst eg5
  obtain ⟨ng5, hng5⟩ : ∃ n, n = lg5.length := ⟨_, rfl⟩
  rw [← hng5] at sg5
  obtain ⟨vg6, lg6⟩ := g6
  have sg6 := ho.g.taints.1
  simp only at sg6
  obtain ⟨Ag6, cg6, eg6, _⟩ := id sg6
  subst eg6
  obtain ⟨ng6, hng6⟩ : ∃ n, n = lg6.length := ⟨_, rfl⟩
  rw [← hng6] at sg6
  obtain ⟨vh3, lh3⟩ := h3
  have sh3 := ho.h.metrics.1
  simp only at sh3
  obtain ⟨Ah3, ch3, eh3, _⟩ := id sh3
  subst eh3
  obtain ⟨nh3, hnh3⟩ : ∃ n, n = lh3.length := ⟨_, rfl⟩
  rw [← hnh3] at sh3
  obtain ⟨vh7, lh7⟩ := h7
  have sh7 := ho.h.up.policies.1
  simp only at sh7
  obtain ⟨Ah7, ch7, eh7, _⟩ := id sh7
  subst eh7
  obtain ⟨nh7, hnh7⟩ : ∃ n, n = lh7.length := ⟨_, rfl⟩
  rw [← hnh7] at sh7
  obtain ⟨vh10, lh10⟩ := h10
  have sh10 := ho.h.down.policies.1
  simp only at sh10
  obtain ⟨Ah10, ch10, eh10, _⟩ := id sh10
  subst eh10
  obtain ⟨nh10, hnh10⟩ : ∃ n, n = lh10.length := ⟨_, rfl⟩
  rw [← hnh10] at sh10
  obtain ⟨vh11, lh11⟩ := h11
  have sh11 := ho.h.past.1
  simp only at sh11
  obtain ⟨Ah11, ch11, eh11, _⟩ := id sh11
  subst eh11
  obtain ⟨nh11, hnh11⟩ : ∃ n, n = lh11.length := ⟨_, rfl⟩
  rw [← hnh11] at sh11
  simp only [Ob.cells, Wl.cells, Pd.cells, Nd.cells, Gr.cells, Hp.cells, List.cons_append, List.nil_append]
  rw [← hnw3, ← hnw4, ← hnw5, ← hnp6, ← hnp7, ← hnp8, ← hnn3, ← hnn4, ← hng5, ← hng6, ← hnh3, ← hnh7, ← hnh10, ← hnh11]
  have Hw3 := Lib.hid hnw3
  clear hnw3 sw3
  have Hw4 := Lib.hid hnw4
  clear hnw4 sw4
  have Hw5 := Lib.hid hnw5
  clear hnw5 sw5
  have Hp6 := Lib.hid hnp6
  clear hnp6 sp6
  have Hp7 := Lib.hid hnp7
  clear hnp7 sp7
  have Hp8 := Lib.hid hnp8
  clear hnp8 sp8
  have Hn3 := Lib.hid hnn3
  clear hnn3 sn3
  have Hn4 := Lib.hid hnn4
  clear hnn4 sn4
  have Hg5 := Lib.hid hng5
  clear hng5 sg5
  have Hg6 := Lib.hid hng6
  clear hng6 sg6
  have Hh3 := Lib.hid hnh3
  clear hnh3 sh3
  have Hh7 := Lib.hid hnh7
  clear hnh7 sh7
  have Hh10 := Lib.hid hnh10
  clear hnh10 sh10
  have Hh11 := Lib.hid hnh11
  clear hnh11 sh11
  have hkb := Bk.new w 57 #[.int .i64 kind, .string name, .int .u64 version, .int .i64 w0, .int .i64 w1, .int .i64 w2, .slice Aw3 nw3 cw3, .slice Aw4 nw4 cw4, .slice Aw5 nw5 cw5, .int .i64 w6, .string p0, .string p1, .int .i64 p2, .int .i64 p3, .int .i64 p4, .int .i64 p5, .slice Ap6 np6 cp6, .slice Ap7 np7 cp7, .slice Ap8 np8 cp8, .int .i64 p9, .string n0, .int .i64 n1, .int .i64 n2, .slice An3 nn3 cn3, .slice An4 nn4 cn4, .int .i64 n5, .bool n6, .int .i64 g0, .int .i64 g1, .int .i64 g2, .int .i64 g3, .int .i64 g4, .slice Ag5 ng5 cg5, .slice Ag6 ng6 cg6, .int .i64 g7, .string h0, .int .i64 h1, .int .i64 h2, .slice Ah3 nh3 ch3, .int .i64 h4, .int .i64 h5, .int .i64 h6, .slice Ah7 nh7 ch7, .int .i64 h8, .int .i64 h9, .slice Ah10 nh10 ch10, .slice Ah11 nh11 ch11]
  go_enter Try.func37, Try.ntmps37
  go_wp2_with fail
  obtain ⟨Wb, hWb⟩ : ∃ Wb, Wb = w.alloc (.cells #[.int .i64 kind, .string name, .int .u64 version, .int .i64 w0, .int .i64 w1, .int .i64 w2, .slice Aw3 nw3 cw3, .slice Aw4 nw4 cw4, .slice Aw5 nw5 cw5, .int .i64 w6, .string p0, .string p1, .int .i64 p2, .int .i64 p3, .int .i64 p4, .int .i64 p5, .slice Ap6 np6 cp6, .slice Ap7 np7 cp7, .slice Ap8 np8 cp8, .int .i64 p9, .string n0, .int .i64 n1, .int .i64 n2, .slice An3 nn3 cn3, .slice An4 nn4 cn4, .int .i64 n5, .bool n6, .int .i64 g0, .int .i64 g1, .int .i64 g2, .int .i64 g3, .int .i64 g4, .slice Ag5 ng5 cg5, .slice Ag6 ng6 cg6, .int .i64 g7, .string h0, .int .i64 h1, .int .i64 h2, .slice Ah3 nh3 ch3, .int .i64 h4, .int .i64 h5, .int .i64 h6, .slice Ah7 nh7 ch7, .int .i64 h8, .int .i64 h9, .slice Ah10 nh10 ch10, .slice Ah11 nh11 ch11] 57) := ⟨_, rfl⟩
  have hBb : Below w.heap.size w Wb := by rw [hWb]; exact below_al _ _
  rw [← hWb] at hkb ⊢
  have HKB := Lib.hid hkb
  have bc3 : Wb.cell? ⟨w.heap.size, 3, none⟩ = some (.int .i64 w0) := hkb.cell 3
  have bc4 : Wb.cell? ⟨w.heap.size, 4, none⟩ = some (.int .i64 w1) := hkb.cell 4
  have bc5 : Wb.cell? ⟨w.heap.size, 5, none⟩ = some (.int .i64 w2) := hkb.cell 5
  have bc6 : Wb.cell? ⟨w.heap.size, 6, none⟩ = some (.slice Aw3 nw3 cw3) := hkb.cell 6
  have bc7 : Wb.cell? ⟨w.heap.size, 7, none⟩ = some (.slice Aw4 nw4 cw4) := hkb.cell 7
  have bc8 : Wb.cell? ⟨w.heap.size, 8, none⟩ = some (.slice Aw5 nw5 cw5) := hkb.cell 8
  have bc9 : Wb.cell? ⟨w.heap.size, 9, none⟩ = some (.int .i64 w6) := hkb.cell 9
  have bc10 : Wb.cell? ⟨w.heap.size, 10, none⟩ = some (.string p0) := hkb.cell 10
  have bc11 : Wb.cell? ⟨w.heap.size, 11, none⟩ = some (.string p1) := hkb.cell 11
  have bc12 : Wb.cell? ⟨w.heap.size, 12, none⟩ = some (.int .i64 p2) := hkb.cell 12
  have bc13 : Wb.cell? ⟨w.heap.size, 13, none⟩ = some (.int .i64 p3) := hkb.cell 13
  have bc14 : Wb.cell? ⟨w.heap.size, 14, none⟩ = some (.int .i64 p4) := hkb.cell 14
  have bc15 : Wb.cell? ⟨w.heap.size, 15, none⟩ = some (.int .i64 p5) := hkb.cell 15
  have bc16 : Wb.cell? ⟨w.heap.size, 16, none⟩ = some (.slice Ap6 np6 cp6) := hkb.cell 16
  have bc17 : Wb.cell? ⟨w.heap.size, 17, none⟩ = some (.slice Ap7 np7 cp7) := hkb.cell 17
  have bc18 : Wb.cell? ⟨w.heap.size, 18, none⟩ = some (.slice Ap8 np8 cp8) := hkb.cell 18
  have bc19 : Wb.cell? ⟨w.heap.size, 19, none⟩ = some (.int .i64 p9) := hkb.cell 19
  have bc20 : Wb.cell? ⟨w.heap.size, 20, none⟩ = some (.string n0) := hkb.cell 20
  have bc21 : Wb.cell? ⟨w.heap.size, 21, none⟩ = some (.int .i64 n1) := hkb.cell 21
  have bc22 : Wb.cell? ⟨w.heap.size, 22, none⟩ = some (.int .i64 n2) := hkb.cell 22
  have bc23 : Wb.cell? ⟨w.heap.size, 23, none⟩ = some (.slice An3 nn3 cn3) := hkb.cell 23
  have bc24 : Wb.cell? ⟨w.heap.size, 24, none⟩ = some (.slice An4 nn4 cn4) := hkb.cell 24
  have bc25 : Wb.cell? ⟨w.heap.size, 25, none⟩ = some (.int .i64 n5) := hkb.cell 25
  have bc26 : Wb.cell? ⟨w.heap.size, 26, none⟩ = some (.bool n6) := hkb.cell 26
  have bc27 : Wb.cell? ⟨w.heap.size, 27, none⟩ = some (.int .i64 g0) := hkb.cell 27
  have bc28 : Wb.cell? ⟨w.heap.size, 28, none⟩ = some (.int .i64 g1) := hkb.cell 28
  have bc29 : Wb.cell? ⟨w.heap.size, 29, none⟩ = some (.int .i64 g2) := hkb.cell 29
  have bc30 : Wb.cell? ⟨w.heap.size, 30, none⟩ = some (.int .i64 g3) := hkb.cell 30
  have bc31 : Wb.cell? ⟨w.heap.size, 31, none⟩ = some (.int .i64 g4) := hkb.cell 31
  have bc32 : Wb.cell? ⟨w.heap.size, 32, none⟩ = some (.slice Ag5 ng5 cg5) := hkb.cell 32
  have bc33 : Wb.cell? ⟨w.heap.size, 33, none⟩ = some (.slice Ag6 ng6 cg6) := hkb.cell 33
  have bc34 : Wb.cell? ⟨w.heap.size, 34, none⟩ = some (.int .i64 g7) := hkb.cell 34
  have bc35 : Wb.cell? ⟨w.heap.size, 35, none⟩ = some (.string h0) := hkb.cell 35
  have bc36 : Wb.cell? ⟨w.heap.size, 36, none⟩ = some (.int .i64 h1) := hkb.cell 36
  have bc37 : Wb.cell? ⟨w.heap.size, 37, none⟩ = some (.int .i64 h2) := hkb.cell 37
  have bc38 : Wb.cell? ⟨w.heap.size, 38, none⟩ = some (.slice Ah3 nh3 ch3) := hkb.cell 38
  have bc39 : Wb.cell? ⟨w.heap.size, 39, none⟩ = some (.int .i64 h4) := hkb.cell 39
  have bc40 : Wb.cell? ⟨w.heap.size, 40, none⟩ = some (.int .i64 h5) := hkb.cell 40
  have bc41 : Wb.cell? ⟨w.heap.size, 41, none⟩ = some (.int .i64 h6) := hkb.cell 41
  have bc42 : Wb.cell? ⟨w.heap.size, 42, none⟩ = some (.slice Ah7 nh7 ch7) := hkb.cell 42
  have bc43 : Wb.cell? ⟨w.heap.size, 43, none⟩ = some (.int .i64 h8) := hkb.cell 43
  have bc44 : Wb.cell? ⟨w.heap.size, 44, none⟩ = some (.int .i64 h9) := hkb.cell 44
  have bc45 : Wb.cell? ⟨w.heap.size, 45, none⟩ = some (.slice Ah10 nh10 ch10) := hkb.cell 45
  have bc46 : Wb.cell? ⟨w.heap.size, 46, none⟩ = some (.slice Ah11 nh11 ch11) := hkb.cell 46
  clear hkb hWb
  refine wp_region_vars (W := Wb) (B := Wb.heap.size)
    (ps := [⟨0, 13, .pointer (some ⟨w.heap.size, 3, none⟩)⟩,
      ⟨1, 14, .agg #[.int .i64 w0, .int .i64 w1, .int .i64 w2, .slice Aw3 nw3 cw3, .slice Aw4 nw4 cw4, .slice Aw5 nw5 cw5, .int .i64 w6]⟩,
      ⟨2, 15, .pointer (some ⟨w.heap.size, 10, none⟩)⟩,
      ⟨3, 16, .agg #[.string p0, .string p1, .int .i64 p2, .int .i64 p3, .int .i64 p4, .int .i64 p5, .slice Ap6 np6 cp6, .slice Ap7 np7 cp7, .slice Ap8 np8 cp8, .int .i64 p9]⟩,
      ⟨4, 17, .pointer (some ⟨w.heap.size, 20, none⟩)⟩,
      ⟨5, 18, .agg #[.string n0, .int .i64 n1, .int .i64 n2, .slice An3 nn3 cn3, .slice An4 nn4 cn4, .int .i64 n5, .bool n6]⟩,
      ⟨6, 19, .pointer (some ⟨w.heap.size, 27, none⟩)⟩,
      ⟨7, 20, .agg #[.int .i64 g0, .int .i64 g1, .int .i64 g2, .int .i64 g3, .int .i64 g4, .slice Ag5 ng5 cg5, .slice Ag6 ng6 cg6, .int .i64 g7]⟩,
      ⟨8, 21, .pointer (some ⟨w.heap.size, 35, none⟩)⟩,
      ⟨9, 22, .agg #[.string h0, .int .i64 h1, .int .i64 h2, .slice Ah3 nh3 ch3, .int .i64 h4, .int .i64 h5, .int .i64 h6, .slice Ah7 nh7 ch7, .int .i64 h8, .int .i64 h9, .slice Ah10 nh10 ch10, .slice Ah11 nh11 ch11]⟩])
    (vs := [⟨10, 15, 3, 42, #[.int .i64 0, .int .i64 0, .int .i64 0, .slice none 0 0, .slice none 0 0, .slice none 0 0, .int .i64 0], #[.int .i64 w0, .int .i64 w1, .int .i64 w2, .slice Aw3 nw3 cw3, .slice Aw4 nw4 cw4, .slice Aw5 nw5 cw5, .int .i64 w6]⟩,
      ⟨11, 16, 4, 44, #[.string ⟨#[]⟩, .string ⟨#[]⟩, .int .i64 0, .int .i64 0, .int .i64 0, .int .i64 0, .slice none 0 0, .slice none 0 0, .slice none 0 0, .int .i64 0], #[.string p0, .string p1, .int .i64 p2, .int .i64 p3, .int .i64 p4, .int .i64 p5, .slice Ap6 np6 cp6, .slice Ap7 np7 cp7, .slice Ap8 np8 cp8, .int .i64 p9]⟩,
      ⟨12, 17, 5, 46, #[.string ⟨#[]⟩, .int .i64 0, .int .i64 0, .slice none 0 0, .slice none 0 0, .int .i64 0, .bool false], #[.string n0, .int .i64 n1, .int .i64 n2, .slice An3 nn3 cn3, .slice An4 nn4 cn4, .int .i64 n5, .bool n6]⟩,
      ⟨13, 18, 6, 48, #[.int .i64 0, .int .i64 0, .int .i64 0, .int .i64 0, .int .i64 0, .slice none 0 0, .slice none 0 0, .int .i64 0], #[.int .i64 g0, .int .i64 g1, .int .i64 g2, .int .i64 g3, .int .i64 g4, .slice Ag5 ng5 cg5, .slice Ag6 ng6 cg6, .int .i64 g7]⟩,
      ⟨14, 19, 7, 55, #[.string ⟨#[]⟩, .int .i64 0, .int .i64 0, .slice none 0 0, .int .i64 0, .int .i64 0, .int .i64 0, .slice none 0 0, .int .i64 0, .int .i64 0, .slice none 0 0, .slice none 0 0], #[.string h0, .int .i64 h1, .int .i64 h2, .slice Ah3 nh3 ch3, .int .i64 h4, .int .i64 h5, .int .i64 h6, .slice Ah7 nh7 ch7, .int .i64 h8, .int .i64 h9, .slice Ah10 nh10 ch10, .slice Ah11 nh11 ch11]⟩])
    (by kernel_rfl) ?_ (Nat.le_refl _) (Below.refl _ _) ?_
  · constructor
    · intro p hp
      simp only [List.mem_cons, List.not_mem_nil, or_false] at hp
      rcases hp with rfl | rfl | rfl | rfl | rfl | rfl | rfl | rfl | rfl | rfl
      · refine ⟨_, rfl, rfl, rfl, fun a w' hA hB => ?_⟩
        have e1 := at_other hA 1 _ rfl rfl rfl
        clear hA
        go_simp
      · refine ⟨_, rfl, rfl, rfl, fun a w' hA hB => ?_⟩
        have e1 := at_pure hA 0 _ rfl rfl
        clear hA
        have k3 := keep_cell hB bc3
        have k4 := keep_cell hB bc4
        have k5 := keep_cell hB bc5
        have k6 := keep_cell hB bc6
        have k7 := keep_cell hB bc7
        have k8 := keep_cell hB bc8
        have k9 := keep_cell hB bc9
        clear hB bc3 bc4 bc5 bc6 bc7 bc8 bc9 bc10 bc11 bc12 bc13 bc14 bc15 bc16 bc17 bc18 bc19 bc20 bc21 bc22 bc23 bc24 bc25 bc26 bc27 bc28 bc29 bc30 bc31 bc32 bc33 bc34 bc35 bc36 bc37 bc38 bc39 bc40 bc41 bc42 bc43 bc44 bc45 bc46
        go_simp
      · refine ⟨_, rfl, rfl, rfl, fun a w' hA hB => ?_⟩
        have e1 := at_other hA 1 _ rfl rfl rfl
        clear hA
        go_simp
      · refine ⟨_, rfl, rfl, rfl, fun a w' hA hB => ?_⟩
        have e1 := at_pure hA 2 _ rfl rfl
        clear hA
        have k10 := keep_cell hB bc10
        have k11 := keep_cell hB bc11
        have k12 := keep_cell hB bc12
        have k13 := keep_cell hB bc13
        have k14 := keep_cell hB bc14
        have k15 := keep_cell hB bc15
        have k16 := keep_cell hB bc16
        have k17 := keep_cell hB bc17
        have k18 := keep_cell hB bc18
        have k19 := keep_cell hB bc19
        clear hB bc3 bc4 bc5 bc6 bc7 bc8 bc9 bc10 bc11 bc12 bc13 bc14 bc15 bc16 bc17 bc18 bc19 bc20 bc21 bc22 bc23 bc24 bc25 bc26 bc27 bc28 bc29 bc30 bc31 bc32 bc33 bc34 bc35 bc36 bc37 bc38 bc39 bc40 bc41 bc42 bc43 bc44 bc45 bc46
        go_simp
      · refine ⟨_, rfl, rfl, rfl, fun a w' hA hB => ?_⟩
        have e1 := at_other hA 1 _ rfl rfl rfl
        clear hA
        go_simp
      · refine ⟨_, rfl, rfl, rfl, fun a w' hA hB => ?_⟩
        have e1 := at_pure hA 4 _ rfl rfl
        clear hA
        have k20 := keep_cell hB bc20
        have k21 := keep_cell hB bc21
        have k22 := keep_cell hB bc22
        have k23 := keep_cell hB bc23
        have k24 := keep_cell hB bc24
        have k25 := keep_cell hB bc25
        have k26 := keep_cell hB bc26
        clear hB bc3 bc4 bc5 bc6 bc7 bc8 bc9 bc10 bc11 bc12 bc13 bc14 bc15 bc16 bc17 bc18 bc19 bc20 bc21 bc22 bc23 bc24 bc25 bc26 bc27 bc28 bc29 bc30 bc31 bc32 bc33 bc34 bc35 bc36 bc37 bc38 bc39 bc40 bc41 bc42 bc43 bc44 bc45 bc46
        go_simp
      · refine ⟨_, rfl, rfl, rfl, fun a w' hA hB => ?_⟩
        have e1 := at_other hA 1 _ rfl rfl rfl
        clear hA
        go_simp
      · refine ⟨_, rfl, rfl, rfl, fun a w' hA hB => ?_⟩
        have e1 := at_pure hA 6 _ rfl rfl
        clear hA
        have k27 := keep_cell hB bc27
        have k28 := keep_cell hB bc28
        have k29 := keep_cell hB bc29
        have k30 := keep_cell hB bc30
        have k31 := keep_cell hB bc31
        have k32 := keep_cell hB bc32
        have k33 := keep_cell hB bc33
        have k34 := keep_cell hB bc34
        clear hB bc3 bc4 bc5 bc6 bc7 bc8 bc9 bc10 bc11 bc12 bc13 bc14 bc15 bc16 bc17 bc18 bc19 bc20 bc21 bc22 bc23 bc24 bc25 bc26 bc27 bc28 bc29 bc30 bc31 bc32 bc33 bc34 bc35 bc36 bc37 bc38 bc39 bc40 bc41 bc42 bc43 bc44 bc45 bc46
        go_simp
      · refine ⟨_, rfl, rfl, rfl, fun a w' hA hB => ?_⟩
        have e1 := at_other hA 1 _ rfl rfl rfl
        clear hA
        go_simp
      · refine ⟨_, rfl, rfl, rfl, fun a w' hA hB => ?_⟩
        have e1 := at_pure hA 8 _ rfl rfl
        clear hA
        have k35 := keep_cell hB bc35
        have k36 := keep_cell hB bc36
        have k37 := keep_cell hB bc37
        have k38 := keep_cell hB bc38
        have k39 := keep_cell hB bc39
        have k40 := keep_cell hB bc40
        have k41 := keep_cell hB bc41
        have k42 := keep_cell hB bc42
        have k43 := keep_cell hB bc43
        have k44 := keep_cell hB bc44
        have k45 := keep_cell hB bc45
        have k46 := keep_cell hB bc46
        clear hB bc3 bc4 bc5 bc6 bc7 bc8 bc9 bc10 bc11 bc12 bc13 bc14 bc15 bc16 bc17 bc18 bc19 bc20 bc21 bc22 bc23 bc24 bc25 bc26 bc27 bc28 bc29 bc30 bc31 bc32 bc33 bc34 bc35 bc36 bc37 bc38 bc39 bc40 bc41 bc42 bc43 bc44 bc45 bc46
        go_simp
    · intro v hv
      simp only [List.mem_cons, List.not_mem_nil, or_false] at hv
      rcases hv with rfl | rfl | rfl | rfl | rfl
      all_goals
        refine ⟨_, rfl, rfl, rfl, fun a w' => ?_⟩
        go_simp
    · intro v hv
      simp only [List.mem_cons, List.not_mem_nil, or_false] at hv
      rcases hv with rfl | rfl | rfl | rfl | rfl
      · refine ⟨_, rfl, rfl, rfl, deps_of rfl, fun a w' g hA e2 hk => ?_⟩
        have e1 := at_pure hA 1 _ rfl rfl
        clear hA
        have k0 := hk.cell 0
        have f0 := hk.frozen 0
        have k1 := hk.cell 1
        have f1 := hk.frozen 1
        have k2 := hk.cell 2
        have f2 := hk.frozen 2
        have k3 := hk.cell 3
        have f3 := hk.frozen 3
        have k4 := hk.cell 4
        have f4 := hk.frozen 4
        have k5 := hk.cell 5
        have f5 := hk.frozen 5
        have k6 := hk.cell 6
        have f6 := hk.frozen 6
        clear hk
        go_simp
        rfl
      · refine ⟨_, rfl, rfl, rfl, deps_of rfl, fun a w' g hA e2 hk => ?_⟩
        have e1 := at_pure hA 3 _ rfl rfl
        clear hA
        have k0 := hk.cell 0
        have f0 := hk.frozen 0
        have k1 := hk.cell 1
        have f1 := hk.frozen 1
        have k2 := hk.cell 2
        have f2 := hk.frozen 2
        have k3 := hk.cell 3
        have f3 := hk.frozen 3
        have k4 := hk.cell 4
        have f4 := hk.frozen 4
        have k5 := hk.cell 5
        have f5 := hk.frozen 5
        have k6 := hk.cell 6
        have f6 := hk.frozen 6
        have k7 := hk.cell 7
        have f7 := hk.frozen 7
        have k8 := hk.cell 8
        have f8 := hk.frozen 8
        have k9 := hk.cell 9
        have f9 := hk.frozen 9
        clear hk
        go_simp
        rfl
      · refine ⟨_, rfl, rfl, rfl, deps_of rfl, fun a w' g hA e2 hk => ?_⟩
        have e1 := at_pure hA 5 _ rfl rfl
        clear hA
        have k0 := hk.cell 0
        have f0 := hk.frozen 0
        have k1 := hk.cell 1
        have f1 := hk.frozen 1
        have k2 := hk.cell 2
        have f2 := hk.frozen 2
        have k3 := hk.cell 3
        have f3 := hk.frozen 3
        have k4 := hk.cell 4
        have f4 := hk.frozen 4
        have k5 := hk.cell 5
        have f5 := hk.frozen 5
        have k6 := hk.cell 6
        have f6 := hk.frozen 6
        clear hk
        go_simp
        rfl
      · refine ⟨_, rfl, rfl, rfl, deps_of rfl, fun a w' g hA e2 hk => ?_⟩
        have e1 := at_pure hA 7 _ rfl rfl
        clear hA
        have k0 := hk.cell 0
        have f0 := hk.frozen 0
        have k1 := hk.cell 1
        have f1 := hk.frozen 1
        have k2 := hk.cell 2
        have f2 := hk.frozen 2
        have k3 := hk.cell 3
        have f3 := hk.frozen 3
        have k4 := hk.cell 4
        have f4 := hk.frozen 4
        have k5 := hk.cell 5
        have f5 := hk.frozen 5
        have k6 := hk.cell 6
        have f6 := hk.frozen 6
        have k7 := hk.cell 7
        have f7 := hk.frozen 7
        clear hk
        go_simp
        rfl
      · refine ⟨_, rfl, rfl, rfl, deps_of rfl, fun a w' g hA e2 hk => ?_⟩
        have e1 := at_pure hA 9 _ rfl rfl
        clear hA
        have k0 := hk.cell 0
        have f0 := hk.frozen 0
        have k1 := hk.cell 1
        have f1 := hk.frozen 1
        have k2 := hk.cell 2
        have f2 := hk.frozen 2
        have k3 := hk.cell 3
        have f3 := hk.frozen 3
        have k4 := hk.cell 4
        have f4 := hk.frozen 4
        have k5 := hk.cell 5
        have f5 := hk.frozen 5
        have k6 := hk.cell 6
        have f6 := hk.frozen 6
        have k7 := hk.cell 7
        have f7 := hk.frozen 7
        have k8 := hk.cell 8
        have f8 := hk.frozen 8
        have k9 := hk.cell 9
        have f9 := hk.frozen 9
        have k10 := hk.cell 10
        have f10 := hk.frozen 10
        have k11 := hk.cell 11
        have f11 := hk.frozen 11
        clear hk
        go_simp
        rfl
    · intro v hv
      simp only [List.mem_cons, List.not_mem_nil, or_false] at hv
      rcases hv with rfl | rfl | rfl | rfl | rfl <;> rfl
    · show ∀ i, i < 20 → i ∈ [0, 1, 2, 3, 4, 5, 6, 7, 8, 9, 10, 11, 12, 13, 14, 15, 16, 17, 18, 19]
      decide
    · show ([0, 1, 2, 3, 4, 5, 6, 7, 8, 9, 10, 11, 12, 13, 14, 15, 16, 17, 18, 19] : List Nat).Nodup
      decide
    · show ([13, 14, 15, 16, 17, 18, 19, 20, 21, 22, 3, 4, 5, 6, 7] : List Nat).Nodup
      decide
    · show ∀ s ∈ ([13, 14, 15, 16, 17, 18, 19, 20, 21, 22, 3, 4, 5, 6, 7] : List Nat), s < 261
      decide
    · exact up_of (by decide +kernel)
  · intro gg W2 hB2 hv hd
    clear hd
    have hBw : Below w.heap.size w W2 := hBb.trans (hB2.mono hBb.size)
    have k2 := HKB.out.below' hB2
    obtain ⟨_, k3⟩ := hv _ (List.mem_cons_self ..)
    obtain ⟨_, k4⟩ := hv _ (List.mem_cons_of_mem _ (List.mem_cons_self ..))
    obtain ⟨_, k5⟩ := hv _ (List.mem_cons_of_mem _ (List.mem_cons_of_mem _ (List.mem_cons_self ..)))
    obtain ⟨_, k6⟩ := hv _ (List.mem_cons_of_mem _ (List.mem_cons_of_mem _ (List.mem_cons_of_mem _ (List.mem_cons_self ..))))
    obtain ⟨_, k7⟩ := hv _ (List.mem_cons_of_mem _ (List.mem_cons_of_mem _ (List.mem_cons_of_mem _ (List.mem_cons_of_mem _ (List.mem_cons_self ..)))))
    clear hv hB2 hBb HKB bc3 bc4 bc5 bc6 bc7 bc8 bc9 bc10 bc11 bc12 bc13 bc14 bc15 bc16 bc17 bc18 bc19 bc20 bc21 bc22 bc23 bc24 bc25 bc26 bc27 bc28 bc29 bc30 bc31 bc32 bc33 bc34 bc35 bc36 bc37 bc38 bc39 bc40 bc41 bc42 bc43 bc44 bc45 bc46
    simp only at k3 k4 k5 k6 k7
    simp only [putAll, setsOf, List.map_cons, List.map_nil, List.cons_append, List.nil_append, List.foldl_cons, List.foldl_nil, List.setIfInBounds_toArray, List.set_cons_zero, List.set_cons_succ]
    generalize gg 3 = G3 at k3 ⊢
    generalize gg 4 = G4 at k4 ⊢
    generalize gg 5 = G5 at k5 ⊢
    generalize gg 6 = G6 at k6 ⊢
    generalize gg 7 = G7 at k7 ⊢
    obtain ⟨G2, hG2⟩ : ∃ G, G = w.heap.size := ⟨_, rfl⟩
    rw [← hG2] at k2 ⊢
    have hK := ‹∀ (a : Act) (w : World), Code.wp Try.prog _ _ a w → _›
    refine hK _ _ ?_
    clear hK
    refine px_code (E := ⟨Try.prog, [[.int .i64 kind, .string name, .int .u64 version, .int .i64 w0, .int .i64 w1, .int .i64 w2, .slice Aw3 nw3 cw3, .slice Aw4 nw4 cw4, .slice Aw5 nw5 cw5, .int .i64 w6, .string p0, .string p1, .int .i64 p2, .int .i64 p3, .int .i64 p4, .int .i64 p5, .slice Ap6 np6 cp6, .slice Ap7 np7 cp7, .slice Ap8 np8 cp8, .int .i64 p9, .string n0, .int .i64 n1, .int .i64 n2, .slice An3 nn3 cn3, .slice An4 nn4 cn4, .int .i64 n5, .bool n6, .int .i64 g0, .int .i64 g1, .int .i64 g2, .int .i64 g3, .int .i64 g4, .slice Ag5 ng5 cg5, .slice Ag6 ng6 cg6, .int .i64 g7, .string h0, .int .i64 h1, .int .i64 h2, .slice Ah3 nh3 ch3, .int .i64 h4, .int .i64 h5, .int .i64 h6, .slice Ah7 nh7 ch7, .int .i64 h8, .int .i64 h9, .slice Ah10 nh10 ch10, .slice Ah11 nh11 ch11],
      [.int .i64 w0, .int .i64 w1, .int .i64 w2, .slice Aw3 nw3 cw3, .slice Aw4 nw4 cw4, .slice Aw5 nw5 cw5, .int .i64 w6],
      [.string p0, .string p1, .int .i64 p2, .int .i64 p3, .int .i64 p4, .int .i64 p5, .slice Ap6 np6 cp6, .slice Ap7 np7 cp7, .slice Ap8 np8 cp8, .int .i64 p9],
      [.string n0, .int .i64 n1, .int .i64 n2, .slice An3 nn3 cn3, .slice An4 nn4 cn4, .int .i64 n5, .bool n6],
      [.int .i64 g0, .int .i64 g1, .int .i64 g2, .int .i64 g3, .int .i64 g4, .slice Ag5 ng5 cg5, .slice Ag6 ng6 cg6, .int .i64 g7],
      [.string h0, .int .i64 h1, .int .i64 h2, .slice Ah3 nh3 ch3, .int .i64 h4, .int .i64 h5, .int .i64 h6, .slice Ah7 nh7 ch7, .int .i64 h8, .int .i64 h9, .slice Ah10 nh10 ch10, .slice Ah11 nh11 ch11]], aggR, fun _ => none, 261, fun _ => false⟩) (C := fun w' => Below W2.heap.size W2 w') (ρ := fun i => ([G2, G3, G4, G5, G6, G7].getD i 0, 0)) ?_ (by kernel_rfl) (fun w h => h.drew) _
      (F := [(1, ⟨.p 0 0, none⟩), (3, ⟨.p 1 0, none⟩), (4, ⟨.p 2 0, none⟩), (5, ⟨.p 3 0, none⟩), (6, ⟨.p 4 0, none⟩), (7, ⟨.p 5 0, none⟩)]) ?_ rfl (Below.refl _ _) 2 [] (.bool (emAll kind (emW w0 w1 w2 nw3 nw4 nw5 w6) (emP p0 p1 p2 p3 p4 p5 np6 np7 np8 p9) (emN n0 n1 n2 nn3 nn4 n5 n6) (emG g0 g1 g2 g3 g4 ng5 ng6 g7) (emH h0 h1 h2 nh3 nh11 h4 h5 h6 nh7 h8 h9 nh10))) (by kernel_rfl) (by kernel_rfl) paid_nil ?_
    · refine ⟨fun w' hb i cells hc => ?_, aggR_ok⟩
      rcases i with _ | _ | _ | _ | _ | _ | i
      · cases hc; exact range_of k2 hb
      · cases hc; exact range_of k3 hb
      · cases hc; exact range_of k4 hb
      · cases hc; exact range_of k5 hb
      · cases hc; exact range_of k6 hb
      · cases hc; exact range_of k7 hb
      · cases hc
    · exact PF.ok_cons rfl (PF.ok_cons rfl (PF.ok_cons rfl (PF.ok_cons rfl (PF.ok_cons rfl (PF.ok_cons rfl PF.ok_nil)))))
    · intro a w' hr hs hd hb
      refine bodyPost_ret (results_tmp rfl _ _ _) hd ⟨?_, hBw.trans (hb.mono hBw.size)⟩
      rw [hr]
      unfold emptyB
      simp only []
      rw [← Hw3.out, ← Hw4.out, ← Hw5.out, ← Hp6.out, ← Hp7.out, ← Hp8.out, ← Hn3.out, ← Hn4.out, ← Hg5.out, ← Hg6.out, ← Hh3.out, ← Hh7.out, ← Hh10.out, ← Hh11.out]
end Go.Proofs.Ytkpklnalfomcbaa
end
section
namespace Go.Proofs.Ytkpklnalfomcbaa
open Go.RowKit Go.Proofs.Mem
set_option linter.unusedVariables false
set_option linter.unusedSimpArgs false
def callTab : List (Nat × SV) → Nat → Option SV
  | [], _ => none
  | (k, v) :: r, s => match Nat.beq k s with
    | true => some v
    | false => callTab r s
def litIn : List Nat → Nat → Bool
  | [], _ => false
  | k :: r, s => match Nat.beq k s with
    | true => true
    | false => litIn r s
theorem aggOk {B : List (List Value)} {call : Nat → Option SV} {n : Nat} {gl : Nat → Bool} : AggOk ⟨Try.prog, B, aggR, call, n, gl⟩ := aggR_ok
theorem px_plain {f : FuncId} {fn : Func} {args : List Value} {w : World} {R : Ending → World → Prop} (call : Nat → Option SV) (lit : Nat → Bool) (n : Nat)
    (hf : Try.prog.funcs[f]? = some fn) (hb : fn.body.isSome = true) (hn : fn.ntmps = n) (ha : args.length ≤ n) (ow : List Owed) (su : List (Bool × Bool)) (vs : List SV)
    (hs : (px2Code ⟨⟨Try.prog, [], aggR, call, n, fun _ => false⟩, w, fun _ => True, 0, [], fun _ => none, lit, fun _ => none⟩ (fn.body.getD .skip) ⟨argF 0 (args.map SV.v), []⟩).sum Try.prog fn.results.toList (fun _ => []) = some ⟨⟨ow, [], su⟩, vs⟩)
    (hsu : ∀ p ∈ su, p.1 = p.2) (hO : ∀ x ∈ ow, x.paid2 ⟨Try.prog, [], aggR, call, n, fun _ => false⟩ w (fun _ => True)) (hR : ∀ ρ w', Below w.heap.size w w' → R (.returned (resVal ρ vs)) w') : Calls Try.prog f args.toArray w R := by
  have hb' : fn.body = some (fn.body.getD .skip) := by
    cases h : fn.body with
    | none => rw [h] at hb; cases hb
    | some c => rfl
  have h := px_calls (H := ⟨⟨Try.prog, [], aggR, call, n, fun _ => false⟩, w, fun _ => True, 0, [], fun _ => none, lit, fun _ => none⟩) (ρ0 := fun _ => (0, 0)) (R := R) aggOk (fun _ _ _ _ h => h) (by kernel_rfl) hf hb' hn (args := args.map SV.v) (B := []) (by simp; rw [hn]; exact ha) rfl
    (fun v hv => by obtain ⟨x, _, rfl⟩ := List.mem_map.1 hv; rfl) trivial (Nat.le_refl _) (fun i b h => by cases h) (fun _ => []) ⟨ow, [], su⟩ vs hs ⟨hO, (fun q hq => by cases hq), hsu⟩ (fun ρ w' _ hb => hR ρ w' hb)
  rw [List.map_map] at h
  have e : args.map (SV.den (fun _ => (0, 0)) ∘ SV.v) = args := by
    rw [show (SV.den (fun _ => (0, 0)) ∘ SV.v) = id from rfl, List.map_id]
  rw [e] at h
  exact h
theorem paid2_nil {E : PE} {W0 : World} {X : (Nat → Nat × Nat) → Prop} : ∀ x ∈ ([] : List Owed), x.paid2 E W0 X := fun x hx => by cases hx
theorem paid2_cons {E : PE} {W0 : World} {X : (Nat → Nat × Nat) → Prop} {y : Owed} {l : List Owed} (h : y.paid2 E W0 X) (hl : ∀ x ∈ l, x.paid2 E W0 X) : ∀ x ∈ y :: l, x.paid2 E W0 X := fun x hx => by
  rcases List.mem_cons.1 hx with rfl | hx
  · exact h
  · exact hl x hx
def mayW (em : Bool) (x : Wl) : Bool := ((em && decide (0 ≤ x.replicas)) && decide (x.replicas ≤ 1000000)) && wantsB x.cpu x.mem x.labels.l x.select.l x.tolerate.l x.warm
def mayP1 (em : Bool) (x : Pd) : Bool := (((((((em && nmB x.owner) && (strE x.node || nmB x.node)) && decide (0 ≤ x.phase)) && decide (x.phase ≤ 3)) && decide (0 ≤ x.since)) && decide (x.since ≤ 4611686018427387904)) && wantsB x.cpu x.mem x.labels.l x.select.l x.tolerate.l x.warm)
def mayP (em : Bool) (x : Pd) : Bool := mayP1 em x && ((x.phase == 3) || ((x.phase == 0) == strE x.node))
def mayN (em : Bool) (x : Nd) : Bool := (((((em && (strE x.group || nmB x.group)) && szB x.cpu x.mem) && rtB x.labels.l) && rtB x.taints.l) && decide (0 ≤ x.since)) && decide (x.since ≤ 4611686018427387904)
def mayG (em : Bool) (x : Gr) : Bool := ((((((((em && decide (0 ≤ x.min)) && decide (x.min ≤ x.target)) && decide (x.target ≤ x.max)) && decide (x.max ≤ 64)) && szB x.cpu x.mem) && rtB x.labels.l) && rtB x.taints.l) && decide (0 ≤ x.priority)) && decide (x.priority ≤ 1000)
def rightV (name : ByteArray) (may : Bool) : Value := pickV (!(nmB name)) (.int .i64 6) (pickV (!may) (.int .i64 2) (.int .i64 0))
def errN (name : ByteArray) (may : Bool) : Int := if nmB name then (if may then 0 else 2) else 6
theorem rightV_eq (name : ByteArray) (may : Bool) : rightV name may = .int .i64 (errN name may) := by
  unfold rightV errN
  rw [pickV_eq, pickV_eq]
  cases nmB name <;> cases may <;> rfl
set_option maxRecDepth 100000 in
theorem right_wl (o : Ob) (w : World) (ho : o.Ok w) (hk : o.kind = 0) : Calls Try.prog 20 #[.agg o.cells.toArray] w fun e w' => e = .returned (.int .i64 (errN o.name (mayW (emptyB o) o.w))) ∧ Below w.heap.size w w' := by
  obtain ⟨kind, name, version, ow, op, on, og, oh⟩ := o
  simp only at hk
  subst hk
  obtain ⟨x0, x1, x2, ⟨v3, l3⟩, ⟨v4, l4⟩, ⟨v5, l5⟩, x6⟩ := ow
  obtain ⟨A3, c3, rfl⟩ : ∃ A c, v3 = .slice A l3.length c := by obtain ⟨A, c, e, _⟩ := ho.w.labels.1; exact ⟨A, c, e⟩
  obtain ⟨A4, c4, rfl⟩ : ∃ A c, v4 = .slice A l4.length c := by obtain ⟨A, c, e, _⟩ := ho.w.select.1; exact ⟨A, c, e⟩
  obtain ⟨A5, c5, rfl⟩ : ∃ A c, v5 = .slice A l5.length c := by obtain ⟨A, c, e, _⟩ := ho.w.tolerate.1; exact ⟨A, c, e⟩
  refine px_plain (args := [.agg (Ob.mk 0 name version (⟨x0, x1, x2, ⟨.slice A3 l3.length c3, l3⟩, ⟨.slice A4 l4.length c4, l4⟩, ⟨.slice A5 l5.length c5, l5⟩, x6⟩ : Wl) op on og oh).cells.toArray]) (callTab [(23, .v (.bool (nmB name))), (26, .v (.bool (emptyB (Ob.mk 0 name version (⟨x0, x1, x2, ⟨.slice A3 l3.length c3, l3⟩, ⟨.slice A4 l4.length c4, l4⟩, ⟨.slice A5 l5.length c5, l5⟩, x6⟩ : Wl) op on og oh)))), (55, .v (.bool (wantsB (⟨x0, x1, x2, ⟨.slice A3 l3.length c3, l3⟩, ⟨.slice A4 l4.length c4, l4⟩, ⟨.slice A5 l5.length c5, l5⟩, x6⟩ : Wl).cpu (⟨x0, x1, x2, ⟨.slice A3 l3.length c3, l3⟩, ⟨.slice A4 l4.length c4, l4⟩, ⟨.slice A5 l5.length c5, l5⟩, x6⟩ : Wl).mem (⟨x0, x1, x2, ⟨.slice A3 l3.length c3, l3⟩, ⟨.slice A4 l4.length c4, l4⟩, ⟨.slice A5 l5.length c5, l5⟩, x6⟩ : Wl).labels.l (⟨x0, x1, x2, ⟨.slice A3 l3.length c3, l3⟩, ⟨.slice A4 l4.length c4, l4⟩, ⟨.slice A5 l5.length c5, l5⟩, x6⟩ : Wl).select.l (⟨x0, x1, x2, ⟨.slice A3 l3.length c3, l3⟩, ⟨.slice A4 l4.length c4, l4⟩, ⟨.slice A5 l5.length c5, l5⟩, x6⟩ : Wl).tolerate.l (⟨x0, x1, x2, ⟨.slice A3 l3.length c3, l3⟩, ⟨.slice A4 l4.length c4, l4⟩, ⟨.slice A5 l5.length c5, l5⟩, x6⟩ : Wl).warm)))]) (litIn [20, 29, 57, 125, 165, 219]) 392 Try.func20 (by kernel_rfl) (by kernel_rfl) (by simp)
    [.call 21 [.v (.string name)] (.v (.bool (nmB name))), .call 37 [.v (.agg (Ob.mk 0 name version (⟨x0, x1, x2, ⟨.slice A3 l3.length c3, l3⟩, ⟨.slice A4 l4.length c4, l4⟩, ⟨.slice A5 l5.length c5, l5⟩, x6⟩ : Wl) op on og oh).cells.toArray)] (.v (.bool (emptyB (Ob.mk 0 name version (⟨x0, x1, x2, ⟨.slice A3 l3.length c3, l3⟩, ⟨.slice A4 l4.length c4, l4⟩, ⟨.slice A5 l5.length c5, l5⟩, x6⟩ : Wl) op on og oh)))), .call 38 [.v (.agg #[.int .i64 (⟨x0, x1, x2, ⟨.slice A3 l3.length c3, l3⟩, ⟨.slice A4 l4.length c4, l4⟩, ⟨.slice A5 l5.length c5, l5⟩, x6⟩ : Wl).cpu, .int .i64 (⟨x0, x1, x2, ⟨.slice A3 l3.length c3, l3⟩, ⟨.slice A4 l4.length c4, l4⟩, ⟨.slice A5 l5.length c5, l5⟩, x6⟩ : Wl).mem]), .v ((⟨x0, x1, x2, ⟨.slice A3 l3.length c3, l3⟩, ⟨.slice A4 l4.length c4, l4⟩, ⟨.slice A5 l5.length c5, l5⟩, x6⟩ : Wl).labels.v), .v ((⟨x0, x1, x2, ⟨.slice A3 l3.length c3, l3⟩, ⟨.slice A4 l4.length c4, l4⟩, ⟨.slice A5 l5.length c5, l5⟩, x6⟩ : Wl).select.v), .v ((⟨x0, x1, x2, ⟨.slice A3 l3.length c3, l3⟩, ⟨.slice A4 l4.length c4, l4⟩, ⟨.slice A5 l5.length c5, l5⟩, x6⟩ : Wl).tolerate.v), .v (.int .i64 (⟨x0, x1, x2, ⟨.slice A3 l3.length c3, l3⟩, ⟨.slice A4 l4.length c4, l4⟩, ⟨.slice A5 l5.length c5, l5⟩, x6⟩ : Wl).warm)] (.v (.bool (wantsB (⟨x0, x1, x2, ⟨.slice A3 l3.length c3, l3⟩, ⟨.slice A4 l4.length c4, l4⟩, ⟨.slice A5 l5.length c5, l5⟩, x6⟩ : Wl).cpu (⟨x0, x1, x2, ⟨.slice A3 l3.length c3, l3⟩, ⟨.slice A4 l4.length c4, l4⟩, ⟨.slice A5 l5.length c5, l5⟩, x6⟩ : Wl).mem (⟨x0, x1, x2, ⟨.slice A3 l3.length c3, l3⟩, ⟨.slice A4 l4.length c4, l4⟩, ⟨.slice A5 l5.length c5, l5⟩, x6⟩ : Wl).labels.l (⟨x0, x1, x2, ⟨.slice A3 l3.length c3, l3⟩, ⟨.slice A4 l4.length c4, l4⟩, ⟨.slice A5 l5.length c5, l5⟩, x6⟩ : Wl).select.l (⟨x0, x1, x2, ⟨.slice A3 l3.length c3, l3⟩, ⟨.slice A4 l4.length c4, l4⟩, ⟨.slice A5 l5.length c5, l5⟩, x6⟩ : Wl).tolerate.l (⟨x0, x1, x2, ⟨.slice A3 l3.length c3, l3⟩, ⟨.slice A4 l4.length c4, l4⟩, ⟨.slice A5 l5.length c5, l5⟩, x6⟩ : Wl).warm)))] []
    [.v (rightV name (mayW (emptyB (Ob.mk 0 name version (⟨x0, x1, x2, ⟨.slice A3 l3.length c3, l3⟩, ⟨.slice A4 l4.length c4, l4⟩, ⟨.slice A5 l5.length c5, l5⟩, x6⟩ : Wl) op on og oh)) (⟨x0, x1, x2, ⟨.slice A3 l3.length c3, l3⟩, ⟨.slice A4 l4.length c4, l4⟩, ⟨.slice A5 l5.length c5, l5⟩, x6⟩ : Wl)))] (by kernel_rfl) (fun p hp => by cases hp) ?_ ?_
  · refine paid2_cons (fun ρ _ w1 hb => (name_any name w1 ho.name).mono fun e w' ⟨h1, h2⟩ => ⟨h1, h2 ▸ Below.refl _ _⟩) (paid2_cons (fun ρ _ w1 hb => empty_any _ w1 (ho.below hb)) ?_)
    exact paid2_cons (fun ρ _ w1 hb => wants_any _ _ _ _ _ _ w1 (ho.w.labels.below hb) (ho.w.select.below hb) (ho.w.tolerate.below hb)) (paid2_nil)
  · intro ρ w' hb
    exact ⟨by show Ending.returned (rightV name _) = _; rw [rightV_eq], hb⟩
set_option maxRecDepth 100000 in
theorem right_pd (o : Ob) (w : World) (ho : o.Ok w) (hk : o.kind = 1) : Calls Try.prog 20 #[.agg o.cells.toArray] w fun e w' => e = .returned (.int .i64 (errN o.name (mayP (emptyB o) o.p))) ∧ Below w.heap.size w w' := by
  obtain ⟨kind, name, version, ow, op, on, og, oh⟩ := o
  simp only at hk
  subst hk
  obtain ⟨x0, x1, x2, x3, x4, x5, ⟨v6, l6⟩, ⟨v7, l7⟩, ⟨v8, l8⟩, x9⟩ := op
  obtain ⟨A6, c6, rfl⟩ : ∃ A c, v6 = .slice A l6.length c := by obtain ⟨A, c, e, _⟩ := ho.p.labels.1; exact ⟨A, c, e⟩
  obtain ⟨A7, c7, rfl⟩ : ∃ A c, v7 = .slice A l7.length c := by obtain ⟨A, c, e, _⟩ := ho.p.select.1; exact ⟨A, c, e⟩
  obtain ⟨A8, c8, rfl⟩ : ∃ A c, v8 = .slice A l8.length c := by obtain ⟨A, c, e, _⟩ := ho.p.tolerate.1; exact ⟨A, c, e⟩
  refine px_plain (args := [.agg (Ob.mk 1 name version ow (⟨x0, x1, x2, x3, x4, x5, ⟨.slice A6 l6.length c6, l6⟩, ⟨.slice A7 l7.length c7, l7⟩, ⟨.slice A8 l8.length c8, l8⟩, x9⟩ : Pd) on og oh).cells.toArray]) (callTab [(23, .v (.bool (nmB name))), (26, .v (.bool (emptyB (Ob.mk 1 name version ow (⟨x0, x1, x2, x3, x4, x5, ⟨.slice A6 l6.length c6, l6⟩, ⟨.slice A7 l7.length c7, l7⟩, ⟨.slice A8 l8.length c8, l8⟩, x9⟩ : Pd) on og oh)))), (65, .v (.bool (nmB (⟨x0, x1, x2, x3, x4, x5, ⟨.slice A6 l6.length c6, l6⟩, ⟨.slice A7 l7.length c7, l7⟩, ⟨.slice A8 l8.length c8, l8⟩, x9⟩ : Pd).owner))), (74, .v (.bool (nmB (⟨x0, x1, x2, x3, x4, x5, ⟨.slice A6 l6.length c6, l6⟩, ⟨.slice A7 l7.length c7, l7⟩, ⟨.slice A8 l8.length c8, l8⟩, x9⟩ : Pd).node))), (108, .v (.bool (wantsB (⟨x0, x1, x2, x3, x4, x5, ⟨.slice A6 l6.length c6, l6⟩, ⟨.slice A7 l7.length c7, l7⟩, ⟨.slice A8 l8.length c8, l8⟩, x9⟩ : Pd).cpu (⟨x0, x1, x2, x3, x4, x5, ⟨.slice A6 l6.length c6, l6⟩, ⟨.slice A7 l7.length c7, l7⟩, ⟨.slice A8 l8.length c8, l8⟩, x9⟩ : Pd).mem (⟨x0, x1, x2, x3, x4, x5, ⟨.slice A6 l6.length c6, l6⟩, ⟨.slice A7 l7.length c7, l7⟩, ⟨.slice A8 l8.length c8, l8⟩, x9⟩ : Pd).labels.l (⟨x0, x1, x2, x3, x4, x5, ⟨.slice A6 l6.length c6, l6⟩, ⟨.slice A7 l7.length c7, l7⟩, ⟨.slice A8 l8.length c8, l8⟩, x9⟩ : Pd).select.l (⟨x0, x1, x2, x3, x4, x5, ⟨.slice A6 l6.length c6, l6⟩, ⟨.slice A7 l7.length c7, l7⟩, ⟨.slice A8 l8.length c8, l8⟩, x9⟩ : Pd).tolerate.l (⟨x0, x1, x2, x3, x4, x5, ⟨.slice A6 l6.length c6, l6⟩, ⟨.slice A7 l7.length c7, l7⟩, ⟨.slice A8 l8.length c8, l8⟩, x9⟩ : Pd).warm)))]) (litIn [20, 29, 57, 125, 165, 219]) 392 Try.func20 (by kernel_rfl) (by kernel_rfl) (by simp)
    [.call 21 [.v (.string name)] (.v (.bool (nmB name))), .call 37 [.v (.agg (Ob.mk 1 name version ow (⟨x0, x1, x2, x3, x4, x5, ⟨.slice A6 l6.length c6, l6⟩, ⟨.slice A7 l7.length c7, l7⟩, ⟨.slice A8 l8.length c8, l8⟩, x9⟩ : Pd) on og oh).cells.toArray)] (.v (.bool (emptyB (Ob.mk 1 name version ow (⟨x0, x1, x2, x3, x4, x5, ⟨.slice A6 l6.length c6, l6⟩, ⟨.slice A7 l7.length c7, l7⟩, ⟨.slice A8 l8.length c8, l8⟩, x9⟩ : Pd) on og oh)))), .call 21 [.v (.string (⟨x0, x1, x2, x3, x4, x5, ⟨.slice A6 l6.length c6, l6⟩, ⟨.slice A7 l7.length c7, l7⟩, ⟨.slice A8 l8.length c8, l8⟩, x9⟩ : Pd).owner)] (.v (.bool (nmB (⟨x0, x1, x2, x3, x4, x5, ⟨.slice A6 l6.length c6, l6⟩, ⟨.slice A7 l7.length c7, l7⟩, ⟨.slice A8 l8.length c8, l8⟩, x9⟩ : Pd).owner))), .call 21 [.v (.string (⟨x0, x1, x2, x3, x4, x5, ⟨.slice A6 l6.length c6, l6⟩, ⟨.slice A7 l7.length c7, l7⟩, ⟨.slice A8 l8.length c8, l8⟩, x9⟩ : Pd).node)] (.v (.bool (nmB (⟨x0, x1, x2, x3, x4, x5, ⟨.slice A6 l6.length c6, l6⟩, ⟨.slice A7 l7.length c7, l7⟩, ⟨.slice A8 l8.length c8, l8⟩, x9⟩ : Pd).node))), .call 38 [.v (.agg #[.int .i64 (⟨x0, x1, x2, x3, x4, x5, ⟨.slice A6 l6.length c6, l6⟩, ⟨.slice A7 l7.length c7, l7⟩, ⟨.slice A8 l8.length c8, l8⟩, x9⟩ : Pd).cpu, .int .i64 (⟨x0, x1, x2, x3, x4, x5, ⟨.slice A6 l6.length c6, l6⟩, ⟨.slice A7 l7.length c7, l7⟩, ⟨.slice A8 l8.length c8, l8⟩, x9⟩ : Pd).mem]), .v ((⟨x0, x1, x2, x3, x4, x5, ⟨.slice A6 l6.length c6, l6⟩, ⟨.slice A7 l7.length c7, l7⟩, ⟨.slice A8 l8.length c8, l8⟩, x9⟩ : Pd).labels.v), .v ((⟨x0, x1, x2, x3, x4, x5, ⟨.slice A6 l6.length c6, l6⟩, ⟨.slice A7 l7.length c7, l7⟩, ⟨.slice A8 l8.length c8, l8⟩, x9⟩ : Pd).select.v), .v ((⟨x0, x1, x2, x3, x4, x5, ⟨.slice A6 l6.length c6, l6⟩, ⟨.slice A7 l7.length c7, l7⟩, ⟨.slice A8 l8.length c8, l8⟩, x9⟩ : Pd).tolerate.v), .v (.int .i64 (⟨x0, x1, x2, x3, x4, x5, ⟨.slice A6 l6.length c6, l6⟩, ⟨.slice A7 l7.length c7, l7⟩, ⟨.slice A8 l8.length c8, l8⟩, x9⟩ : Pd).warm)] (.v (.bool (wantsB (⟨x0, x1, x2, x3, x4, x5, ⟨.slice A6 l6.length c6, l6⟩, ⟨.slice A7 l7.length c7, l7⟩, ⟨.slice A8 l8.length c8, l8⟩, x9⟩ : Pd).cpu (⟨x0, x1, x2, x3, x4, x5, ⟨.slice A6 l6.length c6, l6⟩, ⟨.slice A7 l7.length c7, l7⟩, ⟨.slice A8 l8.length c8, l8⟩, x9⟩ : Pd).mem (⟨x0, x1, x2, x3, x4, x5, ⟨.slice A6 l6.length c6, l6⟩, ⟨.slice A7 l7.length c7, l7⟩, ⟨.slice A8 l8.length c8, l8⟩, x9⟩ : Pd).labels.l (⟨x0, x1, x2, x3, x4, x5, ⟨.slice A6 l6.length c6, l6⟩, ⟨.slice A7 l7.length c7, l7⟩, ⟨.slice A8 l8.length c8, l8⟩, x9⟩ : Pd).select.l (⟨x0, x1, x2, x3, x4, x5, ⟨.slice A6 l6.length c6, l6⟩, ⟨.slice A7 l7.length c7, l7⟩, ⟨.slice A8 l8.length c8, l8⟩, x9⟩ : Pd).tolerate.l (⟨x0, x1, x2, x3, x4, x5, ⟨.slice A6 l6.length c6, l6⟩, ⟨.slice A7 l7.length c7, l7⟩, ⟨.slice A8 l8.length c8, l8⟩, x9⟩ : Pd).warm)))] []
    [.v (rightV name (mayP (emptyB (Ob.mk 1 name version ow (⟨x0, x1, x2, x3, x4, x5, ⟨.slice A6 l6.length c6, l6⟩, ⟨.slice A7 l7.length c7, l7⟩, ⟨.slice A8 l8.length c8, l8⟩, x9⟩ : Pd) on og oh)) (⟨x0, x1, x2, x3, x4, x5, ⟨.slice A6 l6.length c6, l6⟩, ⟨.slice A7 l7.length c7, l7⟩, ⟨.slice A8 l8.length c8, l8⟩, x9⟩ : Pd)))] (by kernel_rfl) (fun p hp => by cases hp) ?_ ?_
  · refine paid2_cons (fun ρ _ w1 hb => (name_any name w1 ho.name).mono fun e w' ⟨h1, h2⟩ => ⟨h1, h2 ▸ Below.refl _ _⟩) (paid2_cons (fun ρ _ w1 hb => empty_any _ w1 (ho.below hb)) ?_)
    exact paid2_cons (fun ρ _ w1 hb => (name_any _ w1 ho.p.owner).mono fun e w' ⟨h1, h2⟩ => ⟨h1, h2 ▸ Below.refl _ _⟩) (paid2_cons (fun ρ _ w1 hb => (name_any _ w1 ho.p.node).mono fun e w' ⟨h1, h2⟩ => ⟨h1, h2 ▸ Below.refl _ _⟩) (paid2_cons (fun ρ _ w1 hb => wants_any _ _ _ _ _ _ w1 (ho.p.labels.below hb) (ho.p.select.below hb) (ho.p.tolerate.below hb)) (paid2_nil)))
  · intro ρ w' hb
    exact ⟨by show Ending.returned (rightV name _) = _; rw [rightV_eq], hb⟩
set_option maxRecDepth 100000 in
theorem right_nd (o : Ob) (w : World) (ho : o.Ok w) (hk : o.kind = 2) : Calls Try.prog 20 #[.agg o.cells.toArray] w fun e w' => e = .returned (.int .i64 (errN o.name (mayN (emptyB o) o.n))) ∧ Below w.heap.size w w' := by
  obtain ⟨kind, name, version, ow, op, on, og, oh⟩ := o
  simp only at hk
  subst hk
  obtain ⟨x0, x1, x2, ⟨v3, l3⟩, ⟨v4, l4⟩, x5, x6⟩ := on
  obtain ⟨A3, c3, rfl⟩ : ∃ A c, v3 = .slice A l3.length c := by obtain ⟨A, c, e, _⟩ := ho.n.labels.1; exact ⟨A, c, e⟩
  obtain ⟨A4, c4, rfl⟩ : ∃ A c, v4 = .slice A l4.length c := by obtain ⟨A, c, e, _⟩ := ho.n.taints.1; exact ⟨A, c, e⟩
  refine px_plain (args := [.agg (Ob.mk 2 name version ow op (⟨x0, x1, x2, ⟨.slice A3 l3.length c3, l3⟩, ⟨.slice A4 l4.length c4, l4⟩, x5, x6⟩ : Nd) og oh).cells.toArray]) (callTab [(23, .v (.bool (nmB name))), (26, .v (.bool (emptyB (Ob.mk 2 name version ow op (⟨x0, x1, x2, ⟨.slice A3 l3.length c3, l3⟩, ⟨.slice A4 l4.length c4, l4⟩, x5, x6⟩ : Nd) og oh)))), (137, .v (.bool (nmB (⟨x0, x1, x2, ⟨.slice A3 l3.length c3, l3⟩, ⟨.slice A4 l4.length c4, l4⟩, x5, x6⟩ : Nd).group))), (143, .v (.bool (szB (⟨x0, x1, x2, ⟨.slice A3 l3.length c3, l3⟩, ⟨.slice A4 l4.length c4, l4⟩, x5, x6⟩ : Nd).cpu (⟨x0, x1, x2, ⟨.slice A3 l3.length c3, l3⟩, ⟨.slice A4 l4.length c4, l4⟩, x5, x6⟩ : Nd).mem))), (148, .v (.bool (rtB (⟨x0, x1, x2, ⟨.slice A3 l3.length c3, l3⟩, ⟨.slice A4 l4.length c4, l4⟩, x5, x6⟩ : Nd).labels.l))), (153, .v (.bool (rtB (⟨x0, x1, x2, ⟨.slice A3 l3.length c3, l3⟩, ⟨.slice A4 l4.length c4, l4⟩, x5, x6⟩ : Nd).taints.l)))]) (litIn [20, 29, 57, 125, 165, 219]) 392 Try.func20 (by kernel_rfl) (by kernel_rfl) (by simp)
    [.call 21 [.v (.string name)] (.v (.bool (nmB name))), .call 37 [.v (.agg (Ob.mk 2 name version ow op (⟨x0, x1, x2, ⟨.slice A3 l3.length c3, l3⟩, ⟨.slice A4 l4.length c4, l4⟩, x5, x6⟩ : Nd) og oh).cells.toArray)] (.v (.bool (emptyB (Ob.mk 2 name version ow op (⟨x0, x1, x2, ⟨.slice A3 l3.length c3, l3⟩, ⟨.slice A4 l4.length c4, l4⟩, x5, x6⟩ : Nd) og oh)))), .call 21 [.v (.string (⟨x0, x1, x2, ⟨.slice A3 l3.length c3, l3⟩, ⟨.slice A4 l4.length c4, l4⟩, x5, x6⟩ : Nd).group)] (.v (.bool (nmB (⟨x0, x1, x2, ⟨.slice A3 l3.length c3, l3⟩, ⟨.slice A4 l4.length c4, l4⟩, x5, x6⟩ : Nd).group))), .call 39 [.v (.agg #[.int .i64 (⟨x0, x1, x2, ⟨.slice A3 l3.length c3, l3⟩, ⟨.slice A4 l4.length c4, l4⟩, x5, x6⟩ : Nd).cpu, .int .i64 (⟨x0, x1, x2, ⟨.slice A3 l3.length c3, l3⟩, ⟨.slice A4 l4.length c4, l4⟩, x5, x6⟩ : Nd).mem])] (.v (.bool (szB (⟨x0, x1, x2, ⟨.slice A3 l3.length c3, l3⟩, ⟨.slice A4 l4.length c4, l4⟩, x5, x6⟩ : Nd).cpu (⟨x0, x1, x2, ⟨.slice A3 l3.length c3, l3⟩, ⟨.slice A4 l4.length c4, l4⟩, x5, x6⟩ : Nd).mem))), .call 40 [.v ((⟨x0, x1, x2, ⟨.slice A3 l3.length c3, l3⟩, ⟨.slice A4 l4.length c4, l4⟩, x5, x6⟩ : Nd).labels.v)] (.v (.bool (rtB (⟨x0, x1, x2, ⟨.slice A3 l3.length c3, l3⟩, ⟨.slice A4 l4.length c4, l4⟩, x5, x6⟩ : Nd).labels.l))), .call 40 [.v ((⟨x0, x1, x2, ⟨.slice A3 l3.length c3, l3⟩, ⟨.slice A4 l4.length c4, l4⟩, x5, x6⟩ : Nd).taints.v)] (.v (.bool (rtB (⟨x0, x1, x2, ⟨.slice A3 l3.length c3, l3⟩, ⟨.slice A4 l4.length c4, l4⟩, x5, x6⟩ : Nd).taints.l)))] []
    [.v (rightV name (mayN (emptyB (Ob.mk 2 name version ow op (⟨x0, x1, x2, ⟨.slice A3 l3.length c3, l3⟩, ⟨.slice A4 l4.length c4, l4⟩, x5, x6⟩ : Nd) og oh)) (⟨x0, x1, x2, ⟨.slice A3 l3.length c3, l3⟩, ⟨.slice A4 l4.length c4, l4⟩, x5, x6⟩ : Nd)))] (by kernel_rfl) (fun p hp => by cases hp) ?_ ?_
  · refine paid2_cons (fun ρ _ w1 hb => (name_any name w1 ho.name).mono fun e w' ⟨h1, h2⟩ => ⟨h1, h2 ▸ Below.refl _ _⟩) (paid2_cons (fun ρ _ w1 hb => empty_any _ w1 (ho.below hb)) ?_)
    exact paid2_cons (fun ρ _ w1 hb => (name_any _ w1 ho.n.group).mono fun e w' ⟨h1, h2⟩ => ⟨h1, h2 ▸ Below.refl _ _⟩) (paid2_cons (fun ρ _ w1 hb => sized_any _ _ w1) (paid2_cons (fun ρ _ w1 hb => right5_any _ w1 (ho.n.labels.below hb)) (paid2_cons (fun ρ _ w1 hb => right5_any _ w1 (ho.n.taints.below hb)) (paid2_nil))))
  · intro ρ w' hb
    exact ⟨by show Ending.returned (rightV name _) = _; rw [rightV_eq], hb⟩
set_option maxRecDepth 100000 in
theorem right_gr (o : Ob) (w : World) (ho : o.Ok w) (hk : o.kind = 3) : Calls Try.prog 20 #[.agg o.cells.toArray] w fun e w' => e = .returned (.int .i64 (errN o.name (mayG (emptyB o) o.g))) ∧ Below w.heap.size w w' := by
  obtain ⟨kind, name, version, ow, op, on, og, oh⟩ := o
  simp only at hk
  subst hk
  obtain ⟨x0, x1, x2, x3, x4, ⟨v5, l5⟩, ⟨v6, l6⟩, x7⟩ := og
  obtain ⟨A5, c5, rfl⟩ : ∃ A c, v5 = .slice A l5.length c := by obtain ⟨A, c, e, _⟩ := ho.g.labels.1; exact ⟨A, c, e⟩
  obtain ⟨A6, c6, rfl⟩ : ∃ A c, v6 = .slice A l6.length c := by obtain ⟨A, c, e, _⟩ := ho.g.taints.1; exact ⟨A, c, e⟩
  refine px_plain (args := [.agg (Ob.mk 3 name version ow op on (⟨x0, x1, x2, x3, x4, ⟨.slice A5 l5.length c5, l5⟩, ⟨.slice A6 l6.length c6, l6⟩, x7⟩ : Gr) oh).cells.toArray]) (callTab [(23, .v (.bool (nmB name))), (26, .v (.bool (emptyB (Ob.mk 3 name version ow op on (⟨x0, x1, x2, x3, x4, ⟨.slice A5 l5.length c5, l5⟩, ⟨.slice A6 l6.length c6, l6⟩, x7⟩ : Gr) oh)))), (197, .v (.bool (szB (⟨x0, x1, x2, x3, x4, ⟨.slice A5 l5.length c5, l5⟩, ⟨.slice A6 l6.length c6, l6⟩, x7⟩ : Gr).cpu (⟨x0, x1, x2, x3, x4, ⟨.slice A5 l5.length c5, l5⟩, ⟨.slice A6 l6.length c6, l6⟩, x7⟩ : Gr).mem))), (202, .v (.bool (rtB (⟨x0, x1, x2, x3, x4, ⟨.slice A5 l5.length c5, l5⟩, ⟨.slice A6 l6.length c6, l6⟩, x7⟩ : Gr).labels.l))), (207, .v (.bool (rtB (⟨x0, x1, x2, x3, x4, ⟨.slice A5 l5.length c5, l5⟩, ⟨.slice A6 l6.length c6, l6⟩, x7⟩ : Gr).taints.l)))]) (litIn [20, 29, 57, 125, 165, 219]) 392 Try.func20 (by kernel_rfl) (by kernel_rfl) (by simp)
    [.call 21 [.v (.string name)] (.v (.bool (nmB name))), .call 37 [.v (.agg (Ob.mk 3 name version ow op on (⟨x0, x1, x2, x3, x4, ⟨.slice A5 l5.length c5, l5⟩, ⟨.slice A6 l6.length c6, l6⟩, x7⟩ : Gr) oh).cells.toArray)] (.v (.bool (emptyB (Ob.mk 3 name version ow op on (⟨x0, x1, x2, x3, x4, ⟨.slice A5 l5.length c5, l5⟩, ⟨.slice A6 l6.length c6, l6⟩, x7⟩ : Gr) oh)))), .call 39 [.v (.agg #[.int .i64 (⟨x0, x1, x2, x3, x4, ⟨.slice A5 l5.length c5, l5⟩, ⟨.slice A6 l6.length c6, l6⟩, x7⟩ : Gr).cpu, .int .i64 (⟨x0, x1, x2, x3, x4, ⟨.slice A5 l5.length c5, l5⟩, ⟨.slice A6 l6.length c6, l6⟩, x7⟩ : Gr).mem])] (.v (.bool (szB (⟨x0, x1, x2, x3, x4, ⟨.slice A5 l5.length c5, l5⟩, ⟨.slice A6 l6.length c6, l6⟩, x7⟩ : Gr).cpu (⟨x0, x1, x2, x3, x4, ⟨.slice A5 l5.length c5, l5⟩, ⟨.slice A6 l6.length c6, l6⟩, x7⟩ : Gr).mem))), .call 40 [.v ((⟨x0, x1, x2, x3, x4, ⟨.slice A5 l5.length c5, l5⟩, ⟨.slice A6 l6.length c6, l6⟩, x7⟩ : Gr).labels.v)] (.v (.bool (rtB (⟨x0, x1, x2, x3, x4, ⟨.slice A5 l5.length c5, l5⟩, ⟨.slice A6 l6.length c6, l6⟩, x7⟩ : Gr).labels.l))), .call 40 [.v ((⟨x0, x1, x2, x3, x4, ⟨.slice A5 l5.length c5, l5⟩, ⟨.slice A6 l6.length c6, l6⟩, x7⟩ : Gr).taints.v)] (.v (.bool (rtB (⟨x0, x1, x2, x3, x4, ⟨.slice A5 l5.length c5, l5⟩, ⟨.slice A6 l6.length c6, l6⟩, x7⟩ : Gr).taints.l)))] []
    [.v (rightV name (mayG (emptyB (Ob.mk 3 name version ow op on (⟨x0, x1, x2, x3, x4, ⟨.slice A5 l5.length c5, l5⟩, ⟨.slice A6 l6.length c6, l6⟩, x7⟩ : Gr) oh)) (⟨x0, x1, x2, x3, x4, ⟨.slice A5 l5.length c5, l5⟩, ⟨.slice A6 l6.length c6, l6⟩, x7⟩ : Gr)))] (by kernel_rfl) (fun p hp => by cases hp) ?_ ?_
  · refine paid2_cons (fun ρ _ w1 hb => (name_any name w1 ho.name).mono fun e w' ⟨h1, h2⟩ => ⟨h1, h2 ▸ Below.refl _ _⟩) (paid2_cons (fun ρ _ w1 hb => empty_any _ w1 (ho.below hb)) ?_)
    exact paid2_cons (fun ρ _ w1 hb => sized_any _ _ w1) (paid2_cons (fun ρ _ w1 hb => right5_any _ w1 (ho.g.labels.below hb)) (paid2_cons (fun ρ _ w1 hb => right5_any _ w1 (ho.g.taints.below hb)) (paid2_nil)))
  · intro ρ w' hb
    exact ⟨by show Ending.returned (rightV name _) = _; rw [rightV_eq], hb⟩
end Go.Proofs.Ytkpklnalfomcbaa
end
section
namespace Go.Proofs.Ytkpklnalfomcbaa
open Go.RowKit Go.Proofs.Mem
set_option linter.unusedVariables false
set_option linter.unusedSimpArgs false
end Go.Proofs.Ytkpklnalfomcbaa
end
section
namespace Go.Proofs.Ytkpklnalfomcbaa
open Go.RowKit Go.Proofs.Mem
set_option linter.unusedVariables false
set_option linter.unusedSimpArgs false
def idxHyp (P : Program) (agg : BinOp → TypeId → Array Value → Array Value → Option Value) (w : World) (i : Int) (found : Bool) : Hyp :=
  ⟨⟨P, [], agg, fun _ => none, 19, litIn []⟩, w, fun _ => True, 0, [], fun id => match Nat.beq id 0 with
    | true => some fun _ => .br found (.done .ret ⟨mkF [4] [.v (.int .i64 i)], []⟩) (.done .normal ⟨[], []⟩)
    | false => none, litIn [], fun _ => none⟩
def idxI {α : Type} (l : List α) (p : α → Bool) : Value := pickV (l.any p) (.int .i64 (l.findIdx p : Int)) (.int .i64 (-1))
theorem any_at {α : Type} {l : List α} {p : α → Bool} (k : Nat) (h : k < l.length) (e : p l[k] = true) : l.any p = true := List.any_eq_true.2 ⟨_, List.getElem_mem h, e⟩
theorem any_none {α : Type} {l : List α} {p : α → Bool} (h : ∀ i (h : i < l.length), i < l.length → p l[i] = false) : l.any p = false := by
  cases e : l.any p with
  | false => rfl
  | true =>
    obtain ⟨x, hx, hp⟩ := List.any_eq_true.1 e
    obtain ⟨i, hi, rfl⟩ := List.getElem_of_mem hx
    rw [h i hi hi] at hp
    cases hp
theorem find_at {α : Type} {l : List α} {p : α → Bool} (k : Nat) (h : k < l.length) (e : p l[k] = true) (hl : ∀ i (h : i < l.length), i < k → p l[i] = false) : l.findIdx p = k := by
  rw [List.findIdx_eq h]
  exact ⟨e, fun j hj => hl j (by omega) hj⟩
theorem den_cap {ρ : Nat → Nat × Nat} (x : Value) (cap : List Value) : (([SV.v x] ++ cap.map SV.v).map (SV.den ρ)).toArray = #[x] ++ cap.toArray := by
  apply Array.toList_inj.1
  simp [List.map_map, Function.comp_def, SV.den]
end Go.Proofs.Ytkpklnalfomcbaa
end
section
namespace Go.Proofs.Ytkpklnalfomcbaa
open Go.RowKit Go.Proofs.Mem
set_option linter.unusedVariables false
set_option linter.unusedSimpArgs false
theorem row_len {α : Type} {r : Row α} {w : World} {s bytes : Nat} {f : α → List Value} {p : α → Prop} (h : r.Ok w s bytes f p) (hb : 8 ≤ bytes) : r.l.length ≤ 140737488355328 := by
  have h1 := h.2.1
  have h2 : r.l.length * 8 ≤ reachBytes := Nat.le_trans (Nat.mul_le_mul_left _ hb) h1
  unfold reachBytes at h2
  omega
def isS (s t : ByteArray) : Bool := s.toList == t.toList
end Go.Proofs.Ytkpklnalfomcbaa
end
section
namespace Go.Proofs.Ytkpklnalfomcbaa
open Go.RowKit Go.Proofs.Mem
set_option linter.unusedVariables false
set_option linter.unusedSimpArgs false
theorem done_sz : (Try.prog.info? 103).map (·.size) = some 3 := by kernel_rfl
end Go.Proofs.Ytkpklnalfomcbaa
end
section
namespace Go.Proofs.Ytkpklnalfomcbaa
open Go.RowKit Go.Proofs.Mem
set_option linter.unusedVariables false
set_option linter.unusedSimpArgs false
end Go.Proofs.Ytkpklnalfomcbaa
end
section
namespace Go.Proofs.Ytkpklnalfomcbaa
open Go.RowKit Go.Proofs.Mem
set_option linter.unusedVariables false
set_option linter.unusedSimpArgs false
end Go.Proofs.Ytkpklnalfomcbaa
end
section
namespace Go.Proofs.Ytkpklnalfomcbaa
open Go.RowKit Go.Proofs.Mem
set_option linter.unusedVariables false
set_option linter.unusedSimpArgs false
def rlHyp (P : Program) (agg : BinOp → TypeId → Array Value → Array Value → Option Value) (w : World) (n : Nat) (call : Nat → Option SV) (id : Nat) (B : List Blk) (fx fr : PF) (ok : Bool) : Hyp :=
  ⟨⟨P, [], agg, call, n, litIn []⟩, w, fun _ => True, 0, [], fun i => match Nat.beq i id with
    | true => some fun _ => .br ok (.done .normal ⟨fx, B⟩) (.done .ret ⟨fr, B⟩)
    | false => none, litIn [], fun _ => none⟩
def allAt {α : Type} (p : Nat → α → Bool) (l : List α) : Bool := decide (∀ k (h : k < l.length), p k l[k] = true)
theorem allAt_no {α : Type} {p : Nat → α → Bool} {l : List α} (k : Nat) (h : k < l.length) (e : p k l[k] = false) : allAt p l = false := decide_eq_false fun hh => by rw [hh k h] at e; cases e
def polOk (l : List Pol) : Bool := allAt (fun k x => !(((decide (x.value < 1) || decide (1000000 < x.value)) || decide (x.period < 1)) || decide (1800 < x.period))) l
def goesB (x : Bh) : Bool := polOk x.policies.l && ((((decide (0 ≤ x.window) && decide (x.window ≤ 1800)) && decide (0 ≤ x.pick)) && decide (x.pick ≤ 2)) && decide ((x.policies.l.length : Int) ≤ 4))
theorem res_and {ρ : Nat → Nat × Nat} (b c : Bool) : resVal ρ [.v (pickV b (.bool c) (.bool false))] = .bool (b && c) := by cases b <;> cases c <;> rfl
set_option maxRecDepth 100000 in
theorem goes_loop (wi pi : Int) (A : Option Addr) (c : Nat) (l : List Pol) (w : World) (hr : PolsOk w ⟨.slice A l.length c, l⟩) (hl : l.length ≤ 140737488355328) :
    LoopSpec (rlHyp Try.prog aggR w 55 (fun _ => none) 0 [⟨true, 52, [.int .i64 wi, .int .i64 pi, .slice A l.length c]⟩] (mkF [1] [.p 0 0]) (mkF [2] [.v (.bool false)]) (allAt (fun k x => !(((decide (x.value < 1) || decide (1000000 < x.value)) || decide (x.period < 1)) || decide (1800 < x.period))) l)) (fun _ => [8, 6, 7, 1, 2]) (0, .loop (loopBody Try.f41 0), [some (.v (.int .i64 0)), some (.v (.slice A l.length c)), some (.v (.int .i64 (l.length : Int))), some (.p 0 0), some (.v (.bool false))], [⟨true, 52, [.int .i64 wi, .int .i64 pi, .slice A l.length c]⟩]) := by
  refine px_loop (H := (rlHyp Try.prog aggR w 55 (fun _ => none) 0 [⟨true, 52, [.int .i64 wi, .int .i64 pi, .slice A l.length c]⟩] (mkF [1] [.p 0 0]) (mkF [2] [.v (.bool false)]) (allAt (fun k x => !(((decide (x.value < 1) || decide (1000000 < x.value)) || decide (x.period < 1)) || decide (1800 < x.period))) l))) (K := .i64) aggR_ok (fun _ _ _ _ h => h) (by kernel_rfl) rfl (fun _ => [8, 6, 7, 1, 2]) (kx := [1]) (kr := [2]) rfl l.length 1 (fun k => ∀ i (h : i < l.length), i < k → (!(((decide (l[i].value < 1) || decide (1000000 < l[i].value)) || decide (l[i].period < 1)) || decide (1800 < l[i].period))) = true) (fun i h hi => absurd hi (Nat.not_lt_zero _)) (fun k => [.v (.slice A l.length c), .v (.int .i64 (l.length : Int)), .p 0 0, .v (.bool false)]) (fun _ => [⟨true, 52, [.int .i64 wi, .int .i64 pi, .slice A l.length c]⟩])
    (fun k => if h : k < l.length then some (⟨false, 120, Pol.cells l[k]⟩, match A with | some ad => (ad.block, ad.off + k * 3) | none => (0, 0)) else none)
    (fun k => if h : k < l.length then callTab [(10, .p 1 0)] else callTab [])
    (fun _ => litIn []) (fun k s => match Nat.beq s 9 with | true => some (decide (k < l.length)) | false => none)
    (fun _ _ => rfl) (fun _ _ => rfl) ?_ (Nat.zero_le _) ?_
  · intro k x hx
    split at hx
    · rename_i hk
      obtain ⟨b, o, c', e, hb, hrg⟩ := row_range (r := ⟨.slice A l.length c, l⟩) (s := 3) (by decide) (fun _ => rfl) hr (Nat.lt_of_le_of_lt (Nat.zero_le _) hk)
      simp only [Value.slice.injEq] at e
      obtain ⟨rfl, -, -⟩ := e
      simp only [Option.some.injEq] at hx
      subst hx
      exact ⟨rfl, hb, elem_range (f := Pol.cells) (s := 3) (fun _ => rfl) hrg k hk⟩
    · cases hx
  · intro k hk hJ
    by_cases hkn : k < l.length
    · obtain ⟨b, o, c', e, hb, hrg⟩ := row_range (r := ⟨.slice A l.length c, l⟩) (s := 3) (by decide) (fun _ => rfl) hr (Nat.lt_of_le_of_lt (Nat.zero_le _) hkn)
      simp only [Value.slice.injEq] at e
      obtain ⟨rfl, -, -⟩ := e
      have hw := hr.2.2 _ (List.getElem_mem hkn)
      rw [dif_pos hkn, dif_pos hkn, decide_eq_true hkn]
      refine ⟨.br (((decide (l[k].value < 1) || decide (1000000 < l[k].value)) || decide (l[k].period < 1)) || decide (1800 < l[k].period)) (.ret [some (.v (.bool false))] [⟨true, 52, [.int .i64 wi, .int .i64 pi, .slice (some ⟨b, o, none⟩) l.length c]⟩]) (.norm [some (.v (.int .i64 (IntKind.i64.wrap ((k : Int) + 1)))), some (.v (.slice (some ⟨b, o, none⟩) l.length c)), some (.v (.int .i64 (l.length : Int))), some (.p 0 0), some (.v (.bool false))] [⟨true, 52, [.int .i64 wi, .int .i64 pi, .slice (some ⟨b, o, none⟩) l.length c]⟩]),
        ⟨[.op (fun ρ => do pure (.value (← Instr.indexAt 50 (.slice (some ⟨b, o, none⟩) l.length c) (.int .i64 (k : Int))))) (.p 1 0)], [], [(decide ((k : Int) < (l.length : Int)), true)]⟩, by kernel_rfl, ⟨?_, ?_, ?_⟩, ?_⟩
      · refine paid2_cons (paid_index (s := 3) (by kernel_rfl) (show (Try.prog.info? 120).map (·.size) = some 3 by kernel_rfl) hkn fun ρ hX => ?_) (paid2_nil)
        rw [hX.2 _ rfl]
        exact ⟨rfl, rfl⟩
      · exact fun q hq => by cases hq
      · exact fun p hp => by rw [List.mem_singleton.1 hp]; exact decide_eq_true (Int.ofNat_lt.2 hkn)
      · refine ⟨fun hb => ⟨[.v (.bool false)], rfl, rfl, fun Q hQ => hQ.2 (allAt_no k hkn ?_)⟩, fun hb => ⟨hkn, ?_, ?_, rfl⟩⟩
        · show (!(((decide (l[k].value < 1) || decide (1000000 < l[k].value)) || decide (l[k].period < 1)) || decide (1800 < l[k].period))) = false
          rw [hb]
          rfl
        · refine fun i h hi => ?_
          rcases Nat.lt_or_eq_of_le (Nat.le_of_lt_succ hi) with h1 | h1
          · exact hJ i h h1
          · subst h1
            rw [hb]
            rfl
        · rw [wrap_add k (by omega)]
          rfl
    · have : k = l.length := by omega
      subst this
      rw [dif_neg hkn, dif_neg hkn, decide_eq_false hkn]
      refine ⟨.exit [some (.p 0 0)] [⟨true, 52, [.int .i64 wi, .int .i64 pi, .slice A l.length c]⟩], ⟨[], [], [(decide ((l.length : Int) < (l.length : Int)), false)]⟩, by kernel_rfl, ⟨fun x hx => (by cases hx), fun x hx => (by cases hx), fun p hp => by rw [List.mem_singleton.1 hp]; simp⟩, [.p 0 0], rfl, rfl, fun Q hQ => ?_⟩
      exact hQ.1 (decide_eq_true fun i h => hJ i h h)
set_option maxRecDepth 100000 in
theorem goes_any (x : Bh) (w : World) (hx : x.Ok w) : Calls Try.prog 41 #[.agg x.cells.toArray] w fun e w' => e = .returned (.bool (goesB x)) ∧ Below w.heap.size w w' := by
  obtain ⟨wi, pi, ⟨v, l⟩⟩ := x
  obtain ⟨A, c, rfl⟩ : ∃ A c, v = .slice A l.length c := by obtain ⟨A, c, e, _⟩ := hx.policies.1; exact ⟨A, c, e⟩
  have hL := goes_loop wi pi A c l w hx.policies (row_len hx.policies (by decide))
  refine px_calls (f := 41) (fn := Try.f41) (args := [.v (.agg (⟨wi, pi, ⟨.slice A l.length c, l⟩⟩ : Bh).cells.toArray)]) (B := []) (ρ0 := fun _ => (0, 0)) (H := (rlHyp Try.prog aggR w 55 (fun _ => none) 0 [⟨true, 52, [.int .i64 wi, .int .i64 pi, .slice A l.length c]⟩] (mkF [1] [.p 0 0]) (mkF [2] [.v (.bool false)]) (allAt (fun k x => !(((decide (x.value < 1) || decide (1000000 < x.value)) || decide (x.period < 1)) || decide (1800 < x.period))) l))) aggR_ok (fun _ _ _ _ h => h) (by kernel_rfl) Try.func41 rfl (by kernel_rfl) (by show (1 : Nat) ≤ 55; decide) rfl (by simp [SV.lt]) trivial (Nat.le_refl _) (fun i b hb => by simp at hb) (fun _ => [8, 6, 7, 1, 2])
    ⟨[], [(0, .loop (loopBody Try.f41 0), [some (.v (.int .i64 0)), some (.v (.slice A l.length c)), some (.v (.int .i64 (l.length : Int))), some (.p 0 0), some (.v (.bool false))], [⟨true, 52, [.int .i64 wi, .int .i64 pi, .slice A l.length c]⟩])], []⟩ [.v (pickV (polOk l) (.bool ((((decide (0 ≤ wi) && decide (wi ≤ 1800)) && decide (0 ≤ pi)) && decide (pi ≤ 2)) && decide ((l.length : Int) ≤ 4))) (.bool false))] (by kernel_rfl) ⟨fun x hx => (by cases hx), fun q hq => by rw [List.mem_singleton.1 hq]; exact hL, fun p hp => (by cases hp)⟩ (fun ρ w' _ hb => ⟨by rw [res_and]; rfl, hb⟩)
end Go.Proofs.Ytkpklnalfomcbaa
end
