/-
  The walks of package trimtabref06: the bytes of rows of labels, of asks, of a behavior.
-/
import Derived.Test.YthdjfcfbmmmmcaaRef6
namespace Go.Proofs.Ythdjfcfbmmmmcaa
open Go.RowKit Go.Proofs.Mem
set_option linter.unusedVariables false
set_option linter.unusedSimpArgs false
def s255 (s : ByteArray) : Prop := s.size ≤ 255
theorem textB_size (s : ByteArray) : (textB s).size = s.size + 1 := by
  unfold textB
  rw [ByteArray.size_append, putB_size, Nat.add_comm]
def labF (a : ByteArray) (l : List Lab) : ByteArray := l.foldl (fun a x => a ++ textB x.key ++ textB x.value) a
theorem labF_snoc (a : ByteArray) (l : List Lab) (x : Lab) : labF a (l ++ [x]) = labF a l ++ textB x.key ++ textB x.value := by unfold labF; rw [List.foldl_append]; rfl
theorem labF_size (a : ByteArray) : ∀ l : List Lab, (∀ x ∈ l, s255 x.key ∧ s255 x.value) → (labF a l).size ≤ a.size + 512 * l.length := by
  intro l
  induction l generalizing a with
  | nil => intro _; simp [labF]
  | cons x l ih =>
    intro h
    have h1 := ih (a ++ textB x.key ++ textB x.value) (fun y hy => h y (List.mem_cons_of_mem _ hy))
    have h2 := h x (List.mem_cons_self ..)
    have e : labF a (x :: l) = labF (a ++ textB x.key ++ textB x.value) l := rfl
    rw [e, List.length_cons]
    rw [ByteArray.size_append, ByteArray.size_append, textB_size, textB_size] at h1
    unfold s255 at h2
    omega
def labsB (l : List Lab) : ByteArray := labF (putB l.length 1) l
def LabsS (l : List Lab) : Prop := l.length ≤ 255 ∧ ∀ x ∈ l, s255 x.key ∧ s255 x.value
set_option maxHeartbeats 1000000 in
set_option maxRecDepth 100000 in
theorem labels_any (r : Row Lab) (w : World) (hr : LabsOk w r) (hs : LabsS r.l) :
    Calls Try.prog 32 #[r.v] w fun e w' => e = .returned (.string (labsB r.l)) ∧ Below w.heap.size w w' := by
  obtain ⟨v, l⟩ := r
  obtain ⟨h, _, _⟩ := hr
  obtain ⟨hl, hx⟩ := hs
  simp only at h hl hx ⊢
  obtain ⟨A, c, rfl, hc, _⟩ := id h
  have C := Lib.hid (put_any l.length 1 w (by omega) (by omega))
  have hp := putB_size l.length 1
  have hF := Lib.hid (labF_size (putB l.length 1))
  obtain ⟨a, ha⟩ : ∃ a, a = putB l.length 1 := ⟨_, rfl⟩
  have hE : Hid (labsB l = labF a l) := Lib.hid (by rw [ha]; rfl)
  rw [← ha] at C hp hF
  have HP := Lib.hid hp
  clear hp ha
  go_enter Try.func32, Try.ntmps32
  go_wp2_with fail
  refine C.out.mono ?_
  rintro e w1 ⟨rfl, hb1⟩
  go_wp2_with fail
  go_loopw [12, 3, 5] (fun i s p wr => ∃ k : Nat, k ≤ l.length ∧ i = .int .i64 k ∧ s = .string (labF a (l.take k)) ∧ Below w.heap.size w wr) (fun i s p wr => l.length - (intOf i).toNat)
  case atStart => exact ⟨0, Nat.zero_le _, rfl, rfl, hb1⟩
  case round =>
    obtain ⟨k, hk, rfl, rfl, hB⟩ := hrel
    by_cases hlt : k < l.length
    · obtain ⟨b, o, rfl, hbl, hadd, hcell⟩ := Sl.row' (s := 2) (f := Lab.cells) (fun _ => rfl) (by omega) (h.below hB) k hlt
      have a0 : wr.cell? ⟨b, o + k * 2, none⟩ = _ := hcell 0 _ rfl
      have a1 := hcell 1 _ rfl
      have hsz := hF.out (l.take k) (fun x hx' => hx x (List.mem_of_mem_take hx'))
      have hlen : (l.take k).length = k := by simp; omega
      have hx2 := hx _ (List.getElem_mem hlt)
      have hsn := labF_snoc a (l.take k) l[k]
      rw [← List.take_succ_eq_append_getElem hlt] at hsn
      rw [hlen, HP.out] at hsz
      have HS := Lib.hid hsn
      clear hsn hcell hlen hF
      generalize labF a (l.take k) = out at hsz HS ⊢
      generalize l[k] = x at a0 a1 hx2 HS
      obtain ⟨key, value⟩ := x
      obtain ⟨x0, x1⟩ := hx2
      unfold s255 at x0 x1
      simp only at a0 a1 x0 x1 HS
      have C1 := Lib.hid (fun w1 => text_any key w1 x0)
      have C2 := Lib.hid (fun w1 => text_any value w1 x1)
      have t1 := textB_size key
      have t2 := textB_size value
      have T1 : (textB key).size ≤ 256 := by omega
      have T2 : (textB value).size ≤ 256 := by omega
      clear t1 t2
      generalize textB key = tk at C1 T1 HS
      generalize textB value = tv at C2 T2 HS
      obtain ⟨s1, e1, z1, k1⟩ := cat_of out tk (by omega)
      obtain ⟨s2, e2, z2, k2⟩ := cat_of s1 tv (by omega)
      have HS2 : Hid (labF a (l.take (k + 1)) = s2) := Lib.hid (by rw [HS.out, e2, e1])
      clear HS e1 e2 z1 z2
      go_wp2_with fail
      obtain ⟨W0, hW0⟩ : ∃ W0, W0 = wr.alloc (.cells #[.string key, .string value] 106) := ⟨_, rfl⟩
      have hk0 := Bk.new wr 106 #[.string key, .string value]
      have hB0 : Below w.heap.size w W0 := by rw [hW0]; exact hB.alloc hB.size _
      rw [← hW0] at hk0 ⊢
      have c0 : W0.cell? ⟨wr.heap.size, 0, none⟩ = some (.string key) := hk0.cell 0
      have c1 : W0.cell? ⟨wr.heap.size, 1, none⟩ = some (.string value) := hk0.cell 1
      clear hW0 hk0
      go_region_held3 (fun w' => w'.cell? ⟨wr.heap.size, 0, none⟩ = some (.string key) ∧ w'.cell? ⟨wr.heap.size, 1, none⟩ = some (.string value) ∧ Below W0.heap.size W0 w')
        (first | (have hB9 := below_tr (by assumption : _ ∧ _ ∧ Below W0.heap.size W0 _).2.2 hb'; exact ⟨keep_cell hB9 c0, keep_cell hB9 c1, hB9⟩) | (exact ⟨c0, c1, (Below.refl _ _).drew⟩)) (first
        | (go_at_call 29; refine (C1.out _).mono ?_; rintro e w' ⟨rfl, hb'⟩)
        | (go_at_call 29; refine (C2.out _).mono ?_; rintro e w' ⟨rfl, hb'⟩))
      have hBz := (by assumption : _ ∧ _ ∧ Below W0.heap.size W0 _).2.2
      go_wp2_with fail
      exact ⟨⟨k + 1, by omega, by go_num, by rw [HS2.out], hB0.trans (hBz.mono hB0.size)⟩, by simp [intOf]; omega⟩
    · have e : l.take k = l := List.take_of_length_le (by omega)
      rw [e]
      clear hF e
      go_wp2_with fail
      go_ret
      exact ⟨by rw [hE.out]; rfl, hB⟩
def reqF (a : ByteArray) (l : List Req) : ByteArray := l.foldl (fun a x => a ++ textB x.key ++ textB x.value ++ putB (u64 x.op) 8) a
theorem reqF_snoc (a : ByteArray) (l : List Req) (x : Req) : reqF a (l ++ [x]) = reqF a l ++ textB x.key ++ textB x.value ++ putB (u64 x.op) 8 := by unfold reqF; rw [List.foldl_append]; rfl
theorem reqF_size (a : ByteArray) : ∀ l : List Req, (∀ x ∈ l, s255 x.key ∧ s255 x.value) → (reqF a l).size ≤ a.size + 520 * l.length := by
  intro l
  induction l generalizing a with
  | nil => intro _; simp [reqF]
  | cons x l ih =>
    intro h
    have h1 := ih (a ++ textB x.key ++ textB x.value ++ putB (u64 x.op) 8) (fun y hy => h y (List.mem_cons_of_mem _ hy))
    have h2 := h x (List.mem_cons_self ..)
    have e : reqF a (x :: l) = reqF (a ++ textB x.key ++ textB x.value ++ putB (u64 x.op) 8) l := rfl
    rw [e, List.length_cons]
    rw [ByteArray.size_append, ByteArray.size_append, ByteArray.size_append, textB_size, textB_size, putB_size] at h1
    unfold s255 at h2
    omega
def reqsB (l : List Req) : ByteArray := reqF (putB l.length 1) l
def ReqsS (l : List Req) : Prop := l.length ≤ 255 ∧ ∀ x ∈ l, s255 x.key ∧ s255 x.value
set_option maxHeartbeats 1000000 in
set_option maxRecDepth 100000 in
theorem asks_any (r : Row Req) (w : World) (hr : ReqsOk w r) (hs : ReqsS r.l) :
    Calls Try.prog 33 #[r.v] w fun e w' => e = .returned (.string (reqsB r.l)) ∧ Below w.heap.size w w' := by
  obtain ⟨v, l⟩ := r
  obtain ⟨h, _, hwf⟩ := hr
  obtain ⟨hl, hx⟩ := hs
  simp only at h hl hx hwf ⊢
  obtain ⟨A, c, rfl, hc, _⟩ := id h
  have C := Lib.hid (put_any l.length 1 w (by omega) (by omega))
  have hp := putB_size l.length 1
  have hF := Lib.hid (reqF_size (putB l.length 1))
  obtain ⟨a, ha⟩ : ∃ a, a = putB l.length 1 := ⟨_, rfl⟩
  have hE : Hid (reqsB l = reqF a l) := Lib.hid (by rw [ha]; rfl)
  rw [← ha] at C hp hF
  have HP := Lib.hid hp
  clear hp ha
  go_enter Try.func33, Try.ntmps33
  go_wp2_with fail
  refine C.out.mono ?_
  rintro e w1 ⟨rfl, hb1⟩
  go_wp2_with fail
  go_loopw [12, 3, 5] (fun i s p wr => ∃ k : Nat, k ≤ l.length ∧ i = .int .i64 k ∧ s = .string (reqF a (l.take k)) ∧ Below w.heap.size w wr) (fun i s p wr => l.length - (intOf i).toNat)
  case atStart => exact ⟨0, Nat.zero_le _, rfl, rfl, hb1⟩
  case round =>
    obtain ⟨k, hk, rfl, rfl, hB⟩ := hrel
    by_cases hlt : k < l.length
    · obtain ⟨b, o, rfl, hbl, hadd, hcell⟩ := Sl.row' (s := 3) (f := Req.cells) (fun _ => rfl) (by omega) (h.below hB) k hlt
      have a0 : wr.cell? ⟨b, o + k * 3, none⟩ = _ := hcell 0 _ rfl
      have a1 := hcell 1 _ rfl
      have a2 := hcell 2 _ rfl
      have hsz := hF.out (l.take k) (fun x hx' => hx x (List.mem_of_mem_take hx'))
      have hlen : (l.take k).length = k := by simp; omega
      have hx2 := hx _ (List.getElem_mem hlt)
      have hw2 := (hwf _ (List.getElem_mem hlt)).2.2
      have hsn := reqF_snoc a (l.take k) l[k]
      rw [← List.take_succ_eq_append_getElem hlt] at hsn
      rw [hlen, HP.out] at hsz
      have HS := Lib.hid hsn
      clear hsn hcell hlen hF
      generalize reqF a (l.take k) = out at hsz HS ⊢
      generalize l[k] = x at a0 a1 a2 hx2 HS hw2
      obtain ⟨key, value, op⟩ := x
      obtain ⟨x0, x1⟩ := hx2
      unfold s255 at x0 x1
      simp only at a0 a1 a2 x0 x1 HS hw2
      have C1 := Lib.hid (fun w1 => text_any key w1 x0)
      have C2 := Lib.hid (fun w1 => text_any value w1 x1)
      have C3 := Lib.hid (fun w1 => int_any op w1 hw2)
      have t1 := textB_size key
      have t2 := textB_size value
      have t3 := putB_size (u64 op) 8
      generalize textB key = tk at C1 t1 HS
      generalize textB value = tv at C2 t2 HS
      generalize putB (u64 op) 8 = tn at C3 t3 HS
      obtain ⟨s1, e1, z1, k1⟩ := cat_of out tk (by omega)
      obtain ⟨s2, e2, z2, k2⟩ := cat_of s1 tv (by omega)
      obtain ⟨s3, e3, z3, k3⟩ := cat_of s2 tn (by omega)
      have HS2 : Hid (reqF a (l.take (k + 1)) = s3) := Lib.hid (by rw [HS.out, e3, e2, e1])
      clear HS e1 e2 e3 z1 z2 z3 t1 t2 t3
      go_wp2_with fail
      obtain ⟨W0, hW0⟩ : ∃ W0, W0 = wr.alloc (.cells #[.string key, .string value, .int .i64 op] 108) := ⟨_, rfl⟩
      have hk0 := Bk.new wr 108 #[.string key, .string value, .int .i64 op]
      have hB0 : Below w.heap.size w W0 := by rw [hW0]; exact hB.alloc hB.size _
      rw [← hW0] at hk0 ⊢
      have c0 : W0.cell? ⟨wr.heap.size, 0, none⟩ = some (.string key) := hk0.cell 0
      have c1 : W0.cell? ⟨wr.heap.size, 1, none⟩ = some (.string value) := hk0.cell 1
      have c2 : W0.cell? ⟨wr.heap.size, 2, none⟩ = some (.int .i64 op) := hk0.cell 2
      clear hW0 hk0
      go_region_held3 (fun w' => w'.cell? ⟨wr.heap.size, 0, none⟩ = some (.string key) ∧ w'.cell? ⟨wr.heap.size, 1, none⟩ = some (.string value) ∧ w'.cell? ⟨wr.heap.size, 2, none⟩ = some (.int .i64 op) ∧ Below W0.heap.size W0 w')
        (first | (have hB9 := below_tr (by assumption : _ ∧ _ ∧ _ ∧ Below W0.heap.size W0 _).2.2.2 hb'; exact ⟨keep_cell hB9 c0, keep_cell hB9 c1, keep_cell hB9 c2, hB9⟩) | (exact ⟨c0, c1, c2, (Below.refl _ _).drew⟩)) (first
        | (go_at_call 29; refine (C1.out _).mono ?_; rintro e w' ⟨rfl, hb'⟩)
        | (go_at_call 29; refine (C2.out _).mono ?_; rintro e w' ⟨rfl, hb'⟩)
        | (go_at_call 30; refine (C3.out _).mono ?_; rintro e w' ⟨rfl, hb'⟩))
      have hBz := (by assumption : _ ∧ _ ∧ _ ∧ Below W0.heap.size W0 _).2.2.2
      go_wp2_with fail
      exact ⟨⟨k + 1, by omega, by go_num, by rw [HS2.out], hB0.trans (hBz.mono hB0.size)⟩, by simp [intOf]; omega⟩
    · have e : l.take k = l := List.take_of_length_le (by omega)
      rw [e]
      clear hF e
      go_wp2_with fail
      go_ret
      exact ⟨by rw [hE.out]; rfl, hB⟩
def resB (a b : Int) : ByteArray := putB (u64 a) 8 ++ putB (u64 b) 8
set_option maxRecDepth 100000 in
theorem resources_any (a b : Int) (w : World) (ha : wfi .i64 a) (hb : wfi .i64 b) :
    Calls Try.prog 31 #[.agg #[.int .i64 a, .int .i64 b]] w fun e w' => e = .returned (.string (resB a b)) ∧ Below w.heap.size w w' := by
  have C1 := Lib.hid (fun w1 => int_any a w1 ha)
  have C2 := Lib.hid (fun w1 => int_any b w1 hb)
  have t1 := putB_size (u64 a) 8
  have t2 := putB_size (u64 b) 8
  have HE := Lib.hid (show resB a b = putB (u64 a) 8 ++ putB (u64 b) 8 from rfl)
  generalize resB a b = q at HE ⊢
  generalize putB (u64 a) 8 = ta at C1 t1 HE
  generalize putB (u64 b) 8 = tb at C2 t2 HE
  obtain ⟨s1, e1, z1, k1⟩ := cat_of ta tb (by omega)
  have HS2 : Hid (q = s1) := Lib.hid (by rw [HE.out, e1])
  clear HE e1 z1 t1 t2
  go_enter Try.func31, Try.ntmps31
  go_wp2_with fail
  obtain ⟨W0, hW0⟩ : ∃ W0, W0 = w.alloc (.cells #[.int .i64 a, .int .i64 b] 29) := ⟨_, rfl⟩
  have hk0 := Bk.new w 29 #[.int .i64 a, .int .i64 b]
  have hB0 : Below w.heap.size w W0 := by rw [hW0]; exact below_al _ _
  rw [← hW0] at hk0 ⊢
  have c0 : W0.cell? ⟨w.heap.size, 0, none⟩ = some (.int .i64 a) := hk0.cell 0
  have c1 : W0.cell? ⟨w.heap.size, 1, none⟩ = some (.int .i64 b) := hk0.cell 1
  clear hW0 hk0
  go_region_held3 (fun w' => w'.cell? ⟨w.heap.size, 0, none⟩ = some (.int .i64 a) ∧ w'.cell? ⟨w.heap.size, 1, none⟩ = some (.int .i64 b) ∧ Below W0.heap.size W0 w')
    (first | (have hB9 := below_tr (by assumption : _ ∧ _ ∧ Below W0.heap.size W0 _).2.2 hb'; exact ⟨keep_cell hB9 c0, keep_cell hB9 c1, hB9⟩) | (exact ⟨c0, c1, (Below.refl _ _).drew⟩)) (first
    | (go_at_call 30; refine (C1.out _).mono ?_; rintro e w' ⟨rfl, hb'⟩)
    | (go_at_call 30; refine (C2.out _).mono ?_; rintro e w' ⟨rfl, hb'⟩))
  have hBz := (by assumption : _ ∧ _ ∧ Below W0.heap.size W0 _).2.2
  go_wp2_with fail
  go_ret
  exact ⟨by rw [HS2.out]; rfl, hB0.trans (hBz.mono hB0.size)⟩
end Go.Proofs.Ythdjfcfbmmmmcaa
