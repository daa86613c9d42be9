/-
  The walks of package trimtabref06: the bytes of a behavior; the folds over rows of metrics and of what was done. (printed by wip/gen_obj.py)
-/
import Derived.Test.YthdjfcfbmmmmcaaRef6b
namespace Go.Proofs.Ythdjfcfbmmmmcaa
open Go.RowKit Go.Proofs.Mem
set_option linter.unusedVariables false
set_option linter.unusedSimpArgs false
theorem truthB_size (b : Bool) : (truthB b).size = 1 := by unfold truthB; exact putB_size _ 1
theorem resB_size (a b : Int) : (resB a b).size = 16 := by unfold resB; rw [ByteArray.size_append, putB_size, putB_size]
theorem labsB_le (l : List Lab) (h : LabsS l) : (labsB l).size ≤ 140000 := by
  have := labF_size (putB l.length 1) l h.2
  have h1 := h.1
  rw [putB_size] at this
  unfold labsB
  omega
theorem reqsB_le (l : List Req) (h : ReqsS l) : (reqsB l).size ≤ 140000 := by
  have := reqF_size (putB l.length 1) l h.2
  have h1 := h.1
  rw [putB_size] at this
  unfold reqsB
  omega
theorem wrap_len (n : Nat) (h : n ≤ 255) : IntKind.u64.wrap (n : Int) = n := by
  simp [IntKind.wrap, IntKind.signed, IntKind.bits]
  omega
def polSx (x : Pol) : Prop := True
def metSx (x : Met) : Prop := s255 x.name
def doneSx (x : Done) : Prop := True
def polF (a : ByteArray) (l : List Pol) : ByteArray := l.foldl (fun a x => a ++ truthB x.pct ++ putB (u64 x.value) 8 ++ putB (u64 x.period) 8) a
theorem polF_snoc (a : ByteArray) (l : List Pol) (x : Pol) : polF a (l ++ [x]) = polF a l ++ truthB x.pct ++ putB (u64 x.value) 8 ++ putB (u64 x.period) 8 := by unfold polF; rw [List.foldl_append]; rfl
theorem polF_size (a : ByteArray) : ∀ l : List Pol, (∀ x ∈ l, polSx x) → (polF a l).size ≤ a.size + 17 * l.length := by
  intro l
  induction l generalizing a with
  | nil => intro _; simp [polF]
  | cons x l ih =>
    intro h
    have h1 := ih (a ++ truthB x.pct ++ putB (u64 x.value) 8 ++ putB (u64 x.period) 8) (fun y hy => h y (List.mem_cons_of_mem _ hy))
    have h2 := h x (List.mem_cons_self ..)
    have e : polF a (x :: l) = polF (a ++ truthB x.pct ++ putB (u64 x.value) 8 ++ putB (u64 x.period) 8) l := rfl
    rw [e, List.length_cons]
    simp only [ByteArray.size_append, textB_size, putB_size, truthB_size] at h1
    unfold polSx at h2
    try unfold s255 at h2
    omega
def metF (a : ByteArray) (l : List Met) : ByteArray := l.foldl (fun a x => a ++ putB (u64 x.kind) 8 ++ textB x.name ++ putB (u64 x.target) 8) a
theorem metF_snoc (a : ByteArray) (l : List Met) (x : Met) : metF a (l ++ [x]) = metF a l ++ putB (u64 x.kind) 8 ++ textB x.name ++ putB (u64 x.target) 8 := by unfold metF; rw [List.foldl_append]; rfl
theorem metF_size (a : ByteArray) : ∀ l : List Met, (∀ x ∈ l, metSx x) → (metF a l).size ≤ a.size + 272 * l.length := by
  intro l
  induction l generalizing a with
  | nil => intro _; simp [metF]
  | cons x l ih =>
    intro h
    have h1 := ih (a ++ putB (u64 x.kind) 8 ++ textB x.name ++ putB (u64 x.target) 8) (fun y hy => h y (List.mem_cons_of_mem _ hy))
    have h2 := h x (List.mem_cons_self ..)
    have e : metF a (x :: l) = metF (a ++ putB (u64 x.kind) 8 ++ textB x.name ++ putB (u64 x.target) 8) l := rfl
    rw [e, List.length_cons]
    simp only [ByteArray.size_append, textB_size, putB_size, truthB_size] at h1
    unfold metSx at h2
    try unfold s255 at h2
    omega
def doneF (a : ByteArray) (l : List Done) : ByteArray := l.foldl (fun a x => a ++ putB (u64 x.at') 8 ++ putB (u64 x.from') 8 ++ putB (u64 x.to') 8) a
theorem doneF_snoc (a : ByteArray) (l : List Done) (x : Done) : doneF a (l ++ [x]) = doneF a l ++ putB (u64 x.at') 8 ++ putB (u64 x.from') 8 ++ putB (u64 x.to') 8 := by unfold doneF; rw [List.foldl_append]; rfl
theorem doneF_size (a : ByteArray) : ∀ l : List Done, (∀ x ∈ l, doneSx x) → (doneF a l).size ≤ a.size + 24 * l.length := by
  intro l
  induction l generalizing a with
  | nil => intro _; simp [doneF]
  | cons x l ih =>
    intro h
    have h1 := ih (a ++ putB (u64 x.at') 8 ++ putB (u64 x.from') 8 ++ putB (u64 x.to') 8) (fun y hy => h y (List.mem_cons_of_mem _ hy))
    have h2 := h x (List.mem_cons_self ..)
    have e : doneF a (x :: l) = doneF (a ++ putB (u64 x.at') 8 ++ putB (u64 x.from') 8 ++ putB (u64 x.to') 8) l := rfl
    rw [e, List.length_cons]
    simp only [ByteArray.size_append, textB_size, putB_size, truthB_size] at h1
    unfold doneSx at h2
    try unfold s255 at h2
    omega
def bhB (x : Bh) : ByteArray := polF (putB (u64 x.window) 8 ++ putB (u64 x.pick) 8 ++ putB x.policies.l.length 1) x.policies.l
def BhS (x : Bh) : Prop := x.policies.l.length ≤ 255
theorem bhB_le (x : Bh) (h : BhS x) : (bhB x).size ≤ 5000 := by
  have := polF_size (putB (u64 x.window) 8 ++ putB (u64 x.pick) 8 ++ putB x.policies.l.length 1) x.policies.l (fun _ _ => trivial)
  unfold BhS at h
  rw [ByteArray.size_append, ByteArray.size_append, putB_size, putB_size, putB_size] at this
  unfold bhB
  omega
set_option maxHeartbeats 2000000 in
set_option maxRecDepth 100000 in
theorem behavior_any (x : Bh) (w : World) (hr : x.Ok w) (hs : BhS x) :
    Calls Try.prog 35 #[.agg x.cells.toArray] w fun e w' => e = .returned (.string (bhB x)) ∧ Below w.heap.size w w' := by
  obtain ⟨window, pick, ⟨v, l⟩⟩ := x
  obtain ⟨y1, y2, h, _, hwf⟩ := hr
  unfold BhS at hs
  simp only [Bh.cells] at y1 y2 h hwf hs ⊢
  obtain ⟨A, c, rfl, hc, _⟩ := id h
  have hok : True ∧ ∀ x ∈ l, x.Wf ∧ polSx x := ⟨trivial, fun x hx => ⟨hwf x hx, trivial⟩⟩
  clear hwf
  obtain ⟨q, hq⟩ : ∃ q, q = bhB ⟨window, pick, ⟨.slice A l.length c, l⟩⟩ := ⟨_, rfl⟩
  rw [← hq]
  have HQ : Hid (q = polF (putB (u64 window) 8 ++ putB (u64 pick) 8 ++ putB l.length 1) l) := Lib.hid hq
  clear hq
  have qh0 := putB_size (u64 window) 8
  have qh1 := putB_size (u64 pick) 8
  have qh2 := putB_size l.length 1
  obtain ⟨sh1, eh1, zh1, kh1⟩ := cat_of (putB (u64 window) 8) (putB (u64 pick) 8) (by omega)
  obtain ⟨sh2, eh2, zh2, kh2⟩ := cat_of sh1 (putB l.length 1) (by omega)
  have HSh : Hid (putB (u64 window) 8 ++ putB (u64 pick) 8 ++ putB l.length 1 = sh2) := Lib.hid (by show putB (u64 window) 8 ++ putB (u64 pick) 8 ++ putB l.length 1 = _; rw [eh2, eh1])
  have zlh : sh2.size ≤ 17 := by omega
  clear eh1 zh1 eh2 zh2 qh0 qh1 qh2
  go_enter Try.func35, Try.ntmps35
  go_wp2_with fail
  obtain ⟨Wb, hWb⟩ : ∃ Wb, Wb = w.alloc (.cells #[.int .i64 window, .int .i64 pick, .slice A l.length c] 43) := ⟨_, rfl⟩
  have hkb := Bk.new w 43 #[.int .i64 window, .int .i64 pick, .slice A l.length c]
  have hBb : Below w.heap.size w Wb := by rw [hWb]; exact below_al _ _
  rw [← hWb] at hkb ⊢
  have bc0 : Wb.cell? ⟨w.heap.size, 0, none⟩ = some (.int .i64 window) := hkb.cell 0
  have bc1 : Wb.cell? ⟨w.heap.size, 1, none⟩ = some (.int .i64 pick) := hkb.cell 1
  have bc2 : Wb.cell? ⟨w.heap.size, 2, none⟩ = some (.slice A l.length c) := hkb.cell 2
  clear hWb hkb
  have hwr := wrap_len l.length hs
  go_region_held3 (fun w' => w'.cell? ⟨w.heap.size, 0, none⟩ = some (.int .i64 window) ∧ w'.cell? ⟨w.heap.size, 1, none⟩ = some (.int .i64 pick) ∧ w'.cell? ⟨w.heap.size, 2, none⟩ = some (.slice A l.length c) ∧ Below Wb.heap.size Wb w')
    (first | (have hB9 := below_tr (by assumption : _ ∧ _ ∧ _ ∧ Below Wb.heap.size Wb _).2.2.2 hb'; exact ⟨keep_cell hB9 bc0, keep_cell hB9 bc1, keep_cell hB9 bc2, hB9⟩) | (exact ⟨bc0, bc1, bc2, (Below.refl _ _).drew⟩)) (first
    | (go_at_call 30; refine (int_any _ _ (by assumption)).mono ?_; rintro e w' ⟨rfl, hb'⟩)
    | (go_at_call 28; refine (put_any _ 1 _ (by omega) (by omega)).mono ?_; rintro e w' ⟨rfl, hb'⟩))
  have hBz := (by assumption : _ ∧ _ ∧ _ ∧ Below Wb.heap.size Wb _).2.2.2
  have hB1 := hBb.trans (hBz.mono hBb.size)
  have d2 := keep_cell hBz bc2
  clear hwr
  go_wp2_with fail
  have HSa : Hid (q = polF sh2 l) := Lib.hid (by rw [HQ.out, HSh.out])
  clear HQ HSh bc0 bc1 bc2 hBz
  go_loopw [22, 3, 5] (fun i s p wr => ∃ k : Nat, k ≤ l.length ∧ i = .int .i64 k ∧ s = .string (polF sh2 (l.take k)) ∧ Below w.heap.size w wr) (fun i s p wr => l.length - (intOf i).toNat)
  case atStart => exact ⟨0, Nat.zero_le _, rfl, rfl, hB1⟩
  case round =>
    obtain ⟨k, hk, rfl, rfl, hB⟩ := hrel
    by_cases hlt : k < l.length
    · obtain ⟨b, o, rfl, hbl, hadd, hcell⟩ := Sl.row' (s := 3) (f := Pol.cells) (fun _ => rfl) (by omega) (h.below hB) k hlt
      have a0 : wr.cell? ⟨b, o + k * 3, none⟩ = _ := hcell 0 _ rfl
      have a1 := hcell 1 _ rfl
      have a2 := hcell 2 _ rfl
      have hsz := (polF_size sh2 (l.take k) (fun x hx' => (hok.2 x (List.mem_of_mem_take hx')).2))
      have hlen : (l.take k).length = k := by simp; omega
      have hx2 := hok.2 _ (List.getElem_mem hlt)
      have hsn := polF_snoc sh2 (l.take k) l[k]
      rw [← List.take_succ_eq_append_getElem hlt] at hsn
      rw [hlen] at hsz
      have HS := Lib.hid hsn
      clear hsn hcell hlen
      generalize polF sh2 (l.take k) = out at hsz HS ⊢
      generalize l[k] = x at a0 a1 a2 hx2 HS
      obtain ⟨x0, x1, x2⟩ := x
      obtain ⟨hw2, hx2⟩ := hx2
      simp only [Pol.Wf, polSx] at a0 a1 a2 HS hw2 hx2
      try unfold s255 at hx2
      obtain ⟨hw2a, hw2b⟩ := hw2
      have qx0 := truthB_size x0
      have qx1 := putB_size (u64 x1) 8
      have qx2 := putB_size (u64 x2) 8
      obtain ⟨sx0, ex0, zx0, kx0⟩ := cat_of out (truthB x0) (by omega)
      obtain ⟨sx1, ex1, zx1, kx1⟩ := cat_of sx0 (putB (u64 x1) 8) (by omega)
      obtain ⟨sx2, ex2, zx2, kx2⟩ := cat_of sx1 (putB (u64 x2) 8) (by omega)
      have HSx : Hid (polF sh2 (l.take (k + 1)) = sx2) := Lib.hid (by rw [HS.out]; show out ++ truthB x0 ++ putB (u64 x1) 8 ++ putB (u64 x2) 8 = _; rw [ex2, ex1, ex0])
      have zlx : sx2.size ≤ 1000000 := by omega
      clear ex0 zx0 ex1 zx1 ex2 zx2 qx0 qx1 qx2
      clear HS zlx
      go_wp2_with fail
      obtain ⟨W0, hW0⟩ : ∃ W0, W0 = wr.alloc (.cells #[.bool x0, .int .i64 x1, .int .i64 x2] 110) := ⟨_, rfl⟩
      have hk0 := Bk.new wr 110 #[.bool x0, .int .i64 x1, .int .i64 x2]
      have hB0 : Below w.heap.size w W0 := by rw [hW0]; exact hB.alloc hB.size _
      rw [← hW0] at hk0 ⊢
      have c0 : W0.cell? ⟨wr.heap.size, 0, none⟩ = some (.bool x0) := hk0.cell 0
      have c1 : W0.cell? ⟨wr.heap.size, 1, none⟩ = some (.int .i64 x1) := hk0.cell 1
      have c2 : W0.cell? ⟨wr.heap.size, 2, none⟩ = some (.int .i64 x2) := hk0.cell 2
      clear hW0 hk0
      go_region_held3 (fun w' => w'.cell? ⟨wr.heap.size, 0, none⟩ = some (.bool x0) ∧ w'.cell? ⟨wr.heap.size, 1, none⟩ = some (.int .i64 x1) ∧ w'.cell? ⟨wr.heap.size, 2, none⟩ = some (.int .i64 x2) ∧ Below W0.heap.size W0 w')
        (first | (have hB9 := below_tr (by assumption : _ ∧ _ ∧ _ ∧ Below W0.heap.size W0 _).2.2.2 hb'; exact ⟨keep_cell hB9 c0, keep_cell hB9 c1, keep_cell hB9 c2, hB9⟩) | (exact ⟨c0, c1, c2, (Below.refl _ _).drew⟩)) (first
        | (go_at_call 34; refine (truth_any _ _).mono ?_; rintro e w' ⟨rfl, hb'⟩)
        | (go_at_call 30; refine (int_any _ _ (by assumption)).mono ?_; rintro e w' ⟨rfl, hb'⟩))
      have hBz := (by assumption : _ ∧ _ ∧ _ ∧ Below W0.heap.size W0 _).2.2.2
      go_wp2_with fail
      exact ⟨⟨k + 1, by omega, by go_num, by rw [HSx.out], hB0.trans (hBz.mono hB0.size)⟩, by simp [intOf]; omega⟩
    · rw [List.take_of_length_le (show l.length ≤ k by omega)]
      go_wp2_with fail
      go_ret
      exact ⟨by rw [HSa.out]; rfl, hB⟩
end Go.Proofs.Ythdjfcfbmmmmcaa
