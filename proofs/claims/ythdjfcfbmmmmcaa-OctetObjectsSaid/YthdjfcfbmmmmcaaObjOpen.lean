/-
  The program's objects, opened: whatever reads as data of a struct type of package api is some Lean structure's cells (XObj).
-/
import Derived.Test.YthdjfcfbmmmmcaaObj
import Derived.Test.YthdjfcfbmmmmcaaProg
namespace Go.Proofs.Mem
theorem chain {cs a l : List Value} {o k : Nat} (h1 : (cs.drop o).take k = a) (h2 : cs.drop (o + k) = l) : cs.drop o = a ++ l := by
  subst h1; subst h2
  rw [← List.drop_drop, List.take_append_drop]
theorem chain_end {cs : List Value} {o : Nat} (h : cs.length = o) : cs.drop o = [] := List.drop_eq_nil_of_le (by omega)
end Go.Proofs.Mem
namespace Go.Proofs.Ythdjfcfbmmmmcaa
open Go.RowKit Go.Proofs.Mem
set_option linter.unusedVariables false
section
variable {W : World} {n : Nat} {cs : List Value}
theorem int_of (h : Mem.Ok Try.prog W (n + 1) 3 cs) : ∃ z, cs = [.int .i64 z] ∧ wfi .i64 z := ok_int Try.underlying3 h
theorem int64_of (h : Mem.Ok Try.prog W (n + 1) 2 cs) : ∃ z, cs = [.int .i64 z] ∧ wfi .i64 z := ok_int Try.underlying2 h
theorem uint64_of (h : Mem.Ok Try.prog W (n + 1) 26 cs) : ∃ z, cs = [.int .u64 z] ∧ wfi .u64 z := ok_int Try.underlying26 h
theorem bool_of (h : Mem.Ok Try.prog W (n + 1) 4 cs) : ∃ b, cs = [.bool b] := ok_bool Try.underlying4 h
theorem str_of (h : Mem.Ok Try.prog W (n + 1) 9 cs) : ∃ s, cs = [.string s] ∧ wfs s := ok_stringR Try.underlying9 h
theorem milli_of (h : Mem.Ok Try.prog W (n + 1) 27 cs) : ∃ z, cs = [.int .i64 z] ∧ wfi .i64 z := ok_int Try.underlying27 h
theorem res_of (h : Mem.Ok Try.prog W (n + 2) 29 cs) : ∃ a b, cs = [.int .i64 a, .int .i64 b] ∧ wfi .i64 a ∧ wfi .i64 b := by
  obtain ⟨hl, hf⟩ := ok_struct Try.underlying29 h
  obtain ⟨z0, e0, w0⟩ := milli_of (ok_field hf 0 27 0 1 (by kernel_rfl) (by kernel_rfl))
  obtain ⟨z1, e1, w1⟩ := milli_of (ok_field hf 1 27 1 1 (by kernel_rfl) (by kernel_rfl))
  exact ⟨z0, z1, chain e0 (chain e1 (chain_end (hl.trans (by kernel_rfl)))), w0, w1⟩
theorem lab_of (h : Mem.Ok Try.prog W (n + 2) 106 cs) : ∃ x : Lab, cs = x.cells ∧ x.Wf := by
  obtain ⟨hl, hf⟩ := ok_struct Try.underlying106 h
  obtain ⟨z0, e0, w0⟩ := str_of (ok_field hf 0 9 0 1 (by kernel_rfl) (by kernel_rfl))
  obtain ⟨z1, e1, w1⟩ := str_of (ok_field hf 1 9 1 1 (by kernel_rfl) (by kernel_rfl))
  exact ⟨⟨z0, z1⟩, chain e0 (chain e1 (chain_end (hl.trans (by kernel_rfl)))), w0, w1⟩
theorem req_of (h : Mem.Ok Try.prog W (n + 2) 108 cs) : ∃ x : Req, cs = x.cells ∧ x.Wf := by
  obtain ⟨hl, hf⟩ := ok_struct Try.underlying108 h
  obtain ⟨z0, e0, w0⟩ := str_of (ok_field hf 0 9 0 1 (by kernel_rfl) (by kernel_rfl))
  obtain ⟨z1, e1, w1⟩ := str_of (ok_field hf 1 9 1 1 (by kernel_rfl) (by kernel_rfl))
  obtain ⟨z2, e2, w2⟩ := int_of (ok_field hf 2 3 2 1 (by kernel_rfl) (by kernel_rfl))
  exact ⟨⟨z0, z1, z2⟩, chain e0 (chain e1 (chain e2 (chain_end (hl.trans (by kernel_rfl))))), w0, w1, w2⟩
theorem met_of (h : Mem.Ok Try.prog W (n + 2) 81 cs) : ∃ x : Met, cs = x.cells ∧ x.Wf := by
  obtain ⟨hl, hf⟩ := ok_struct Try.underlying81 h
  obtain ⟨z0, e0, w0⟩ := int_of (ok_field hf 0 3 0 1 (by kernel_rfl) (by kernel_rfl))
  obtain ⟨z1, e1, w1⟩ := str_of (ok_field hf 1 9 1 1 (by kernel_rfl) (by kernel_rfl))
  obtain ⟨z2, e2, w2⟩ := milli_of (ok_field hf 2 27 2 1 (by kernel_rfl) (by kernel_rfl))
  exact ⟨⟨z0, z1, z2⟩, chain e0 (chain e1 (chain e2 (chain_end (hl.trans (by kernel_rfl))))), w0, w1, w2⟩
theorem pol_of (h : Mem.Ok Try.prog W (n + 2) 110 cs) : ∃ x : Pol, cs = x.cells ∧ x.Wf := by
  obtain ⟨hl, hf⟩ := ok_struct Try.underlying110 h
  obtain ⟨z0, e0⟩ := bool_of (ok_field hf 0 4 0 1 (by kernel_rfl) (by kernel_rfl))
  obtain ⟨z1, e1, w1⟩ := int_of (ok_field hf 1 3 1 1 (by kernel_rfl) (by kernel_rfl))
  obtain ⟨z2, e2, w2⟩ := int_of (ok_field hf 2 3 2 1 (by kernel_rfl) (by kernel_rfl))
  exact ⟨⟨z0, z1, z2⟩, chain e0 (chain e1 (chain e2 (chain_end (hl.trans (by kernel_rfl))))), w1, w2⟩
theorem done_of (h : Mem.Ok Try.prog W (n + 2) 91 cs) : ∃ x : Done, cs = x.cells ∧ x.Wf := by
  obtain ⟨hl, hf⟩ := ok_struct Try.underlying91 h
  obtain ⟨z0, e0, w0⟩ := int64_of (ok_field hf 0 2 0 1 (by kernel_rfl) (by kernel_rfl))
  obtain ⟨z1, e1, w1⟩ := int_of (ok_field hf 1 3 1 1 (by kernel_rfl) (by kernel_rfl))
  obtain ⟨z2, e2, w2⟩ := int_of (ok_field hf 2 3 2 1 (by kernel_rfl) (by kernel_rfl))
  exact ⟨⟨z0, z1, z2⟩, chain e0 (chain e1 (chain e2 (chain_end (hl.trans (by kernel_rfl))))), w0, w1, w2⟩
theorem labs_of (h : Mem.Ok Try.prog W (n + 3) 30 cs) : ∃ r : Row Lab, cs = [r.v] ∧ LabsOk W r :=
  row_of Lab.cells Lab.Wf Try.underlying30 (by kernel_rfl) (by kernel_rfl) (by omega) h fun c => lab_of
theorem reqs_of (h : Mem.Ok Try.prog W (n + 3) 31 cs) : ∃ r : Row Req, cs = [r.v] ∧ ReqsOk W r :=
  row_of Req.cells Req.Wf Try.underlying31 (by kernel_rfl) (by kernel_rfl) (by omega) h fun c => req_of
theorem mets_of (h : Mem.Ok Try.prog W (n + 3) 40 cs) : ∃ r : Row Met, cs = [r.v] ∧ MetsOk W r :=
  row_of Met.cells Met.Wf Try.underlying40 (by kernel_rfl) (by kernel_rfl) (by omega) h fun c => met_of
theorem pols_of (h : Mem.Ok Try.prog W (n + 3) 41 cs) : ∃ r : Row Pol, cs = [r.v] ∧ PolsOk W r :=
  row_of Pol.cells Pol.Wf Try.underlying41 (by kernel_rfl) (by kernel_rfl) (by omega) h fun c => pol_of
theorem doness_of (h : Mem.Ok Try.prog W (n + 3) 44 cs) : ∃ r : Row Done, cs = [r.v] ∧ DonesOk W r :=
  row_of Done.cells Done.Wf Try.underlying44 (by kernel_rfl) (by kernel_rfl) (by omega) h fun c => done_of
theorem wl_of (h : Mem.Ok Try.prog W (n + 4) 33 cs) : ∃ x : Wl, cs = x.cells ∧ x.Ok W := by
  obtain ⟨hl, hf⟩ := ok_struct Try.underlying33 h
  obtain ⟨z0, e0, w0⟩ := int_of (ok_field hf 0 3 0 1 (by kernel_rfl) (by kernel_rfl))
  obtain ⟨a1, b1, e1, u1, v1⟩ := res_of (ok_field hf 1 29 1 2 (by kernel_rfl) (by kernel_rfl))
  obtain ⟨z2, e2, w2⟩ := labs_of (ok_field hf 2 30 3 1 (by kernel_rfl) (by kernel_rfl))
  obtain ⟨z3, e3, w3⟩ := reqs_of (ok_field hf 3 31 4 1 (by kernel_rfl) (by kernel_rfl))
  obtain ⟨z4, e4, w4⟩ := labs_of (ok_field hf 4 30 5 1 (by kernel_rfl) (by kernel_rfl))
  obtain ⟨z5, e5, w5⟩ := int_of (ok_field hf 5 3 6 1 (by kernel_rfl) (by kernel_rfl))
  exact ⟨⟨z0, a1, b1, z2, z3, z4, z5⟩, chain e0 (chain e1 (chain e2 (chain e3 (chain e4 (chain e5 (chain_end (hl.trans (by kernel_rfl)))))))), w0, u1, v1, w2, w3, w4, w5⟩
theorem pd_of (h : Mem.Ok Try.prog W (n + 4) 35 cs) : ∃ x : Pd, cs = x.cells ∧ x.Ok W := by
  obtain ⟨hl, hf⟩ := ok_struct Try.underlying35 h
  obtain ⟨z0, e0, w0⟩ := str_of (ok_field hf 0 9 0 1 (by kernel_rfl) (by kernel_rfl))
  obtain ⟨z1, e1, w1⟩ := str_of (ok_field hf 1 9 1 1 (by kernel_rfl) (by kernel_rfl))
  obtain ⟨z2, e2, w2⟩ := int_of (ok_field hf 2 3 2 1 (by kernel_rfl) (by kernel_rfl))
  obtain ⟨z3, e3, w3⟩ := int64_of (ok_field hf 3 2 3 1 (by kernel_rfl) (by kernel_rfl))
  obtain ⟨a4, b4, e4, u4, v4⟩ := res_of (ok_field hf 4 29 4 2 (by kernel_rfl) (by kernel_rfl))
  obtain ⟨z5, e5, w5⟩ := labs_of (ok_field hf 5 30 6 1 (by kernel_rfl) (by kernel_rfl))
  obtain ⟨z6, e6, w6⟩ := reqs_of (ok_field hf 6 31 7 1 (by kernel_rfl) (by kernel_rfl))
  obtain ⟨z7, e7, w7⟩ := labs_of (ok_field hf 7 30 8 1 (by kernel_rfl) (by kernel_rfl))
  obtain ⟨z8, e8, w8⟩ := int_of (ok_field hf 8 3 9 1 (by kernel_rfl) (by kernel_rfl))
  exact ⟨⟨z0, z1, z2, z3, a4, b4, z5, z6, z7, z8⟩, chain e0 (chain e1 (chain e2 (chain e3 (chain e4 (chain e5 (chain e6 (chain e7 (chain e8 (chain_end (hl.trans (by kernel_rfl))))))))))), w0, w1, w2, w3, u4, v4, w5, w6, w7, w8⟩
theorem nd_of (h : Mem.Ok Try.prog W (n + 4) 37 cs) : ∃ x : Nd, cs = x.cells ∧ x.Ok W := by
  obtain ⟨hl, hf⟩ := ok_struct Try.underlying37 h
  obtain ⟨z0, e0, w0⟩ := str_of (ok_field hf 0 9 0 1 (by kernel_rfl) (by kernel_rfl))
  obtain ⟨a1, b1, e1, u1, v1⟩ := res_of (ok_field hf 1 29 1 2 (by kernel_rfl) (by kernel_rfl))
  obtain ⟨z2, e2, w2⟩ := labs_of (ok_field hf 2 30 3 1 (by kernel_rfl) (by kernel_rfl))
  obtain ⟨z3, e3, w3⟩ := labs_of (ok_field hf 3 30 4 1 (by kernel_rfl) (by kernel_rfl))
  obtain ⟨z4, e4, w4⟩ := int64_of (ok_field hf 4 2 5 1 (by kernel_rfl) (by kernel_rfl))
  obtain ⟨z5, e5⟩ := bool_of (ok_field hf 5 4 6 1 (by kernel_rfl) (by kernel_rfl))
  exact ⟨⟨z0, a1, b1, z2, z3, z4, z5⟩, chain e0 (chain e1 (chain e2 (chain e3 (chain e4 (chain e5 (chain_end (hl.trans (by kernel_rfl)))))))), w0, u1, v1, w2, w3, w4⟩
theorem gr_of (h : Mem.Ok Try.prog W (n + 4) 39 cs) : ∃ x : Gr, cs = x.cells ∧ x.Ok W := by
  obtain ⟨hl, hf⟩ := ok_struct Try.underlying39 h
  obtain ⟨z0, e0, w0⟩ := int_of (ok_field hf 0 3 0 1 (by kernel_rfl) (by kernel_rfl))
  obtain ⟨z1, e1, w1⟩ := int_of (ok_field hf 1 3 1 1 (by kernel_rfl) (by kernel_rfl))
  obtain ⟨z2, e2, w2⟩ := int_of (ok_field hf 2 3 2 1 (by kernel_rfl) (by kernel_rfl))
  obtain ⟨a3, b3, e3, u3, v3⟩ := res_of (ok_field hf 3 29 3 2 (by kernel_rfl) (by kernel_rfl))
  obtain ⟨z4, e4, w4⟩ := labs_of (ok_field hf 4 30 5 1 (by kernel_rfl) (by kernel_rfl))
  obtain ⟨z5, e5, w5⟩ := labs_of (ok_field hf 5 30 6 1 (by kernel_rfl) (by kernel_rfl))
  obtain ⟨z6, e6, w6⟩ := int_of (ok_field hf 6 3 7 1 (by kernel_rfl) (by kernel_rfl))
  exact ⟨⟨z0, z1, z2, a3, b3, z4, z5, z6⟩, chain e0 (chain e1 (chain e2 (chain e3 (chain e4 (chain e5 (chain e6 (chain_end (hl.trans (by kernel_rfl))))))))), w0, w1, w2, u3, v3, w4, w5, w6⟩
theorem bh_of (h : Mem.Ok Try.prog W (n + 4) 43 cs) : ∃ x : Bh, cs = x.cells ∧ x.Ok W := by
  obtain ⟨hl, hf⟩ := ok_struct Try.underlying43 h
  obtain ⟨z0, e0, w0⟩ := int_of (ok_field hf 0 3 0 1 (by kernel_rfl) (by kernel_rfl))
  obtain ⟨z1, e1, w1⟩ := int_of (ok_field hf 1 3 1 1 (by kernel_rfl) (by kernel_rfl))
  obtain ⟨z2, e2, w2⟩ := pols_of (ok_field hf 2 41 2 1 (by kernel_rfl) (by kernel_rfl))
  exact ⟨⟨z0, z1, z2⟩, chain e0 (chain e1 (chain e2 (chain_end (hl.trans (by kernel_rfl))))), w0, w1, w2⟩
theorem hp_of (h : Mem.Ok Try.prog W (n + 5) 46 cs) : ∃ x : Hp, cs = x.cells ∧ x.Ok W := by
  obtain ⟨hl, hf⟩ := ok_struct Try.underlying46 h
  obtain ⟨z0, e0, w0⟩ := str_of (ok_field hf 0 9 0 1 (by kernel_rfl) (by kernel_rfl))
  obtain ⟨z1, e1, w1⟩ := int_of (ok_field hf 1 3 1 1 (by kernel_rfl) (by kernel_rfl))
  obtain ⟨z2, e2, w2⟩ := int_of (ok_field hf 2 3 2 1 (by kernel_rfl) (by kernel_rfl))
  obtain ⟨z3, e3, w3⟩ := mets_of (ok_field hf 3 40 3 1 (by kernel_rfl) (by kernel_rfl))
  obtain ⟨z4, e4, w4⟩ := int_of (ok_field hf 4 3 4 1 (by kernel_rfl) (by kernel_rfl))
  obtain ⟨z5, e5, w5⟩ := bh_of (ok_field hf 5 43 5 3 (by kernel_rfl) (by kernel_rfl))
  obtain ⟨z6, e6, w6⟩ := bh_of (ok_field hf 6 43 8 3 (by kernel_rfl) (by kernel_rfl))
  obtain ⟨z7, e7, w7⟩ := doness_of (ok_field hf 7 44 11 1 (by kernel_rfl) (by kernel_rfl))
  exact ⟨⟨z0, z1, z2, z3, z4, z5, z6, z7⟩, chain e0 (chain e1 (chain e2 (chain e3 (chain e4 (chain e5 (chain e6 (chain e7 (chain_end (hl.trans (by kernel_rfl)))))))))), w0, w1, w2, w3, w4, w5, w6, w7⟩
theorem obj_of (h : Mem.Ok Try.prog W (n + 6) 48 cs) : ∃ o : Ob, cs = o.cells ∧ o.Ok W := by
  obtain ⟨hl, hf⟩ := ok_struct Try.underlying48 h
  obtain ⟨z0, e0, w0⟩ := int_of (ok_field hf 0 3 0 1 (by kernel_rfl) (by kernel_rfl))
  obtain ⟨z1, e1, w1⟩ := str_of (ok_field hf 1 9 1 1 (by kernel_rfl) (by kernel_rfl))
  obtain ⟨z2, e2, w2⟩ := uint64_of (ok_field hf 2 26 2 1 (by kernel_rfl) (by kernel_rfl))
  obtain ⟨z3, e3, w3⟩ := wl_of (ok_field hf 3 33 3 7 (by kernel_rfl) (by kernel_rfl))
  obtain ⟨z4, e4, w4⟩ := pd_of (ok_field hf 4 35 10 10 (by kernel_rfl) (by kernel_rfl))
  obtain ⟨z5, e5, w5⟩ := nd_of (ok_field hf 5 37 20 7 (by kernel_rfl) (by kernel_rfl))
  obtain ⟨z6, e6, w6⟩ := gr_of (ok_field hf 6 39 27 8 (by kernel_rfl) (by kernel_rfl))
  obtain ⟨z7, e7, w7⟩ := hp_of (ok_field hf 7 46 35 12 (by kernel_rfl) (by kernel_rfl))
  refine ⟨⟨z0, z1, z2, z3, z4, z5, z6, z7⟩, ?_, w0, w1, w2, w3, w4, w5, w6, w7⟩
  have := chain e0 (chain e1 (chain e2 (chain e3 (chain e4 (chain e5 (chain e6 (chain e7 (chain_end (hl.trans (by kernel_rfl))))))))))
  rw [List.drop_zero] at this
  rw [this]
  simp [Ob.cells]
end
end Go.Proofs.Ythdjfcfbmmmmcaa
