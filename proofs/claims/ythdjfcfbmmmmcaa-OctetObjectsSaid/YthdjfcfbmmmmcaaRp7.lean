/-
  Objects as codes: the reader's answer in plain words. (printed by wip/gen_rp7.py)
-/
import Derived.Test.YthdjfcfbmmmmcaaRp6
import Derived.Test.YthdjfcfbmmmmcaaRef6d
namespace Go.Proofs.Ythdjfcfbmmmmcaa
open Go.RowKit Go.Proofs.Mem
set_option linter.unusedVariables false
set_option linter.unusedSimpArgs false
theorem bl_app (a b : ByteArray) : (a ++ b).data.toList = a.data.toList ++ b.data.toList := by
  rw [ByteArray.data_append, Array.toList_append]
theorem bl_put (x n : Nat) : (putB x n).data.toList = putL x n := rfl
theorem bl_text (s : ByteArray) : (textB s).data.toList = eStr s := by
  unfold textB eStr; rw [bl_app, bl_put]
theorem bl_truth (b : Bool) : (truthB b).data.toList = eTru b := rfl
theorem bl_int (z : Int) : (putB (u64 z) 8).data.toList = eInt z := rfl
theorem bl_res (a b : Int) : (resB a b).data.toList = eInt a ++ eInt b := by
  unfold resB; rw [bl_app]; rfl
theorem bl_lab (l : List Lab) : ∀ a : ByteArray, (labF a l).data.toList = a.data.toList ++ l.flatMap eLab := by
  induction l with
  | nil => intro a; simp [labF]
  | cons x l ih =>
    intro a
    have e1 : labF a (x :: l) = labF (a ++ textB x.key ++ textB x.value) l := rfl
    rw [e1, ih, List.flatMap_cons]
    simp only [bl_app, bl_text, bl_int, bl_truth, eLab, List.append_assoc]
theorem bl_req (l : List Req) : ∀ a : ByteArray, (reqF a l).data.toList = a.data.toList ++ l.flatMap eReq := by
  induction l with
  | nil => intro a; simp [reqF]
  | cons x l ih =>
    intro a
    have e1 : reqF a (x :: l) = reqF (a ++ textB x.key ++ textB x.value ++ putB (u64 x.op) 8) l := rfl
    rw [e1, ih, List.flatMap_cons]
    simp only [bl_app, bl_text, bl_int, bl_truth, eReq, List.append_assoc]
theorem bl_met (l : List Mem.Met) : ∀ a : ByteArray, (metF a l).data.toList = a.data.toList ++ l.flatMap eMet := by
  induction l with
  | nil => intro a; simp [metF]
  | cons x l ih =>
    intro a
    have e1 : metF a (x :: l) = metF (a ++ putB (u64 x.kind) 8 ++ textB x.name ++ putB (u64 x.target) 8) l := rfl
    rw [e1, ih, List.flatMap_cons]
    simp only [bl_app, bl_text, bl_int, bl_truth, eMet, List.append_assoc]
theorem bl_done (l : List Done) : ∀ a : ByteArray, (doneF a l).data.toList = a.data.toList ++ l.flatMap eDone := by
  induction l with
  | nil => intro a; simp [doneF]
  | cons x l ih =>
    intro a
    have e1 : doneF a (x :: l) = doneF (a ++ putB (u64 x.at') 8 ++ putB (u64 x.from') 8 ++ putB (u64 x.to') 8) l := rfl
    rw [e1, ih, List.flatMap_cons]
    simp only [bl_app, bl_text, bl_int, bl_truth, eDone, List.append_assoc]
theorem bl_pol (l : List Pol) : ∀ a : ByteArray, (polF a l).data.toList = a.data.toList ++ l.flatMap ePol := by
  induction l with
  | nil => intro a; simp [polF]
  | cons x l ih =>
    intro a
    have e1 : polF a (x :: l) = polF (a ++ truthB x.pct ++ putB (u64 x.value) 8 ++ putB (u64 x.period) 8) l := rfl
    rw [e1, ih, List.flatMap_cons]
    simp only [bl_app, bl_text, bl_int, bl_truth, ePol, List.append_assoc]
theorem bl_labs (l : List Lab) : (labsB l).data.toList = eLabs l := by unfold labsB; rw [bl_lab, bl_put]; rfl
theorem bl_reqs (l : List Req) : (reqsB l).data.toList = eReqs l := by unfold reqsB; rw [bl_req, bl_put]; rfl
def Wl.tup (x : Wl) : TWl := (x.replicas, x.cpu, x.mem, x.labels.l, x.select.l, x.tolerate.l, x.warm)
def Pd.tup (x : Pd) : TPd := (x.owner, x.node, x.phase, x.since, x.cpu, x.mem, x.labels.l, x.select.l, x.tolerate.l, x.warm)
def Nd.tup (x : Nd) : TNd := (x.group, x.cpu, x.mem, x.labels.l, x.taints.l, x.since, x.closed)
def Gr.tup (x : Gr) : TGr := (x.min, x.max, x.target, x.cpu, x.mem, x.labels.l, x.taints.l, x.priority)
def Bh.tup (x : Bh) : TBh := (x.window, x.pick, x.policies.l)
def Hp.tup (x : Hp) : THp := (x.target, x.min, x.max, x.metrics.l, x.tolerance, Bh.tup x.up, Bh.tup x.down, x.past.l)
theorem bl_bh (x : Bh) : (bhB x).data.toList = eBh (Bh.tup x) := by
  unfold bhB; rw [bl_pol]; simp only [bl_app, bl_put, eInt, eBh, Bh.tup, eRow, List.append_assoc]
theorem bl_wl (a : ByteArray) (x : Wl) : (wlB a x).data.toList = a.data.toList ++ eWl (Wl.tup x) := by
  unfold wlB; simp only [bl_app, bl_int, bl_res, bl_labs, bl_reqs, eWl, Wl.tup, List.append_assoc]
theorem bl_pd (a : ByteArray) (x : Pd) : (pdB a x).data.toList = a.data.toList ++ ePd (Pd.tup x) := by
  unfold pdB; simp only [bl_app, bl_text, bl_int, bl_res, bl_labs, bl_reqs, ePd, Pd.tup, List.append_assoc]
theorem bl_nd (a : ByteArray) (x : Nd) : (ndB a x).data.toList = a.data.toList ++ eNd (Nd.tup x) := by
  unfold ndB; simp only [bl_app, bl_text, bl_truth, bl_int, bl_res, bl_labs, bl_reqs, eNd, Nd.tup, List.append_assoc]
theorem bl_gr (a : ByteArray) (x : Gr) : (grB a x).data.toList = a.data.toList ++ eGr (Gr.tup x) := by
  unfold grB; simp only [bl_app, bl_text, bl_int, bl_res, bl_labs, bl_reqs, eGr, Gr.tup, List.append_assoc]
theorem bl_hp (a : ByteArray) (x : Hp) : (hpB a x).data.toList = a.data.toList ++ eHp (Hp.tup x) := by
  unfold hpB; rw [bl_done]; simp only [bl_app]; unfold hpB1; rw [bl_met]; simp only [bl_app, bl_text, eInt, bl_put, bl_bh, eHp, Hp.tup, eRow, List.append_assoc]
/-- A shape of one of the kinds. -/
inductive Shp where
  | wl (x : TWl) | pd (x : TPd) | nd (x : TNd) | gr (x : TGr) | hp (x : THp)
def eShp : Shp → List UInt8
  | .wl x => eWl x | .pd x => ePd x | .nd x => eNd x | .gr x => eGr x | .hp x => eHp x
def okShp (k : Nat) : Shp → Prop
  | .wl x => k = 0 ∧ okWl x | .pd x => k = 1 ∧ okPd x | .nd x => k = 2 ∧ okNd x | .gr x => k = 3 ∧ okGr x | .hp x => k = 4 ∧ okHp x
def dMap {α β : Type} (d : Dec α) (f : α → β) : Dec β := fun bs => (d bs).map fun q => (f q.1, q.2)
def dShp (k : Nat) : Dec Shp :=
  if k = 0 then dMap dWl .wl else if k = 1 then dMap dPd .pd else if k = 2 then dMap dNd .nd else if k = 3 then dMap dGr .gr else if k = 4 then dMap dHp .hp else fun _ => none
theorem dmap_some {α β : Type} {d : Dec α} {f : α → β} {bs : List UInt8} {y : β} {rest : List UInt8} (h : dMap d f bs = some (y, rest)) : ∃ x, d bs = some (x, rest) ∧ y = f x := by
  unfold dMap at h
  cases hd : d bs with
  | none => rw [hd] at h; cases h
  | some q =>
    rw [hd] at h
    simp only [Option.map_some, Option.some.injEq, Prod.mk.injEq] at h
    exact ⟨q.1, by rw [← h.2], h.1.symm⟩
theorem dshp_0 : dShp 0 = dMap dWl .wl := by unfold dShp; rw [if_pos rfl]
theorem dshp_1 : dShp 1 = dMap dPd .pd := by unfold dShp; rw [if_neg (by decide), if_pos rfl]
theorem dshp_2 : dShp 2 = dMap dNd .nd := by unfold dShp; rw [if_neg (by decide), if_neg (by decide), if_pos rfl]
theorem dshp_3 : dShp 3 = dMap dGr .gr := by unfold dShp; rw [if_neg (by decide), if_neg (by decide), if_neg (by decide), if_pos rfl]
theorem dshp_4 : dShp 4 = dMap dHp .hp := by unfold dShp; rw [if_neg (by decide), if_neg (by decide), if_neg (by decide), if_neg (by decide), if_pos rfl]
theorem dshp_no {k : Nat} (h : 5 ≤ k) (bs : List UInt8) : dShp k bs = none := by unfold dShp; rw [if_neg (by omega), if_neg (by omega), if_neg (by omega), if_neg (by omega), if_neg (by omega)]
theorem codec_shp (k : Nat) : Codec eShp (okShp k) (dShp k) := by
  refine ⟨fun x rest hx => ?_, fun bs y rest h => ?_⟩
  · cases x with
    | wl x =>
      obtain ⟨rfl, hx⟩ := hx
      rw [dshp_0]
      unfold dMap
      rw [show eShp (.wl x) = eWl x from rfl, codec_wl.back x rest hx]
      rfl
    | pd x =>
      obtain ⟨rfl, hx⟩ := hx
      rw [dshp_1]
      unfold dMap
      rw [show eShp (.pd x) = ePd x from rfl, codec_pd.back x rest hx]
      rfl
    | nd x =>
      obtain ⟨rfl, hx⟩ := hx
      rw [dshp_2]
      unfold dMap
      rw [show eShp (.nd x) = eNd x from rfl, codec_nd.back x rest hx]
      rfl
    | gr x =>
      obtain ⟨rfl, hx⟩ := hx
      rw [dshp_3]
      unfold dMap
      rw [show eShp (.gr x) = eGr x from rfl, codec_gr.back x rest hx]
      rfl
    | hp x =>
      obtain ⟨rfl, hx⟩ := hx
      rw [dshp_4]
      unfold dMap
      rw [show eShp (.hp x) = eHp x from rfl, codec_hp.back x rest hx]
      rfl
  · unfold dShp at h
    split at h
    · rename_i hk
      obtain ⟨x, h1, rfl⟩ := dmap_some h
      obtain ⟨h2, h3⟩ := codec_wl.just _ _ _ h1
      exact ⟨⟨hk, h2⟩, h3⟩
    split at h
    · rename_i hk
      obtain ⟨x, h1, rfl⟩ := dmap_some h
      obtain ⟨h2, h3⟩ := codec_pd.just _ _ _ h1
      exact ⟨⟨hk, h2⟩, h3⟩
    split at h
    · rename_i hk
      obtain ⟨x, h1, rfl⟩ := dmap_some h
      obtain ⟨h2, h3⟩ := codec_nd.just _ _ _ h1
      exact ⟨⟨hk, h2⟩, h3⟩
    split at h
    · rename_i hk
      obtain ⟨x, h1, rfl⟩ := dmap_some h
      obtain ⟨h2, h3⟩ := codec_gr.just _ _ _ h1
      exact ⟨⟨hk, h2⟩, h3⟩
    split at h
    · rename_i hk
      obtain ⟨x, h1, rfl⟩ := dmap_some h
      obtain ⟨h2, h3⟩ := codec_hp.just _ _ _ h1
      exact ⟨⟨hk, h2⟩, h3⟩
    cases h
/-- One, and behind it what depends on it. -/
def dDep {α β : Type} (d : Dec α) (f : α → Dec β) : Dec (α × β) := d.then fun x bs => (f x bs).map fun q => ((x, q.1), q.2)
theorem codec_dep {α β : Type} {e1 : α → List UInt8} {o1 : α → Prop} {d : Dec α} {e2 : β → List UInt8} {o2 : α → β → Prop} {f : α → Dec β} (h : Codec e1 o1 d) (k : ∀ x, Codec e2 (o2 x) (f x)) :
    Codec (fun p : α × β => e1 p.1 ++ e2 p.2) (fun p => o1 p.1 ∧ o2 p.1 p.2) (dDep d f) := by
  refine ⟨fun p rest hp => ?_, fun bs p rest hd => ?_⟩
  · unfold dDep Dec.then
    rw [List.append_assoc, h.back p.1 _ hp.1]
    dsimp only
    rw [(k p.1).back p.2 rest hp.2]
    rfl
  · unfold dDep Dec.then at hd
    split at hd
    · cases hd
    · rename_i x r hx
      obtain ⟨h1, h2⟩ := h.just _ _ _ hx
      dsimp only at hd
      cases hf : f x r with
      | none => rw [hf] at hd; cases hd
      | some q =>
        rw [hf] at hd
        simp only [Option.map_some, Option.some.injEq, Prod.mk.injEq] at hd
        obtain ⟨rfl, rfl⟩ := hd
        obtain ⟨h3, h4⟩ := (k x).just _ _ _ hf
        refine ⟨⟨h1, h3⟩, ?_⟩
        show e1 x ++ e2 q.1 ++ q.2 = bs
        rw [List.append_assoc, h4, h2]
/-- An object's parts: kind, name, version, shape. -/
abbrev TOb := Nat × ByteArray × Nat × Shp
def eOb (x : TOb) : List UInt8 := putL x.1 1 ++ (eStr x.2.1 ++ (putL x.2.2.1 8 ++ eShp x.2.2.2))
def okOb (x : TOb) : Prop := x.1 < 256 ^ 1 ∧ (s256 x.2.1 ∧ (x.2.2.1 < 256 ^ 8 ∧ okShp x.1 x.2.2.2))
def dOb : Dec TOb := dDep (dNum 1) fun k => dPair dStr (dPair (dNum 8) (dShp k))
theorem codec_ob : Codec eOb okOb dOb := codec_dep (codec_num 1) fun k => codec_pair codec_s (codec_pair (codec_num 8) (codec_shp k))
theorem Stp.dep {α β : Type} {d : Dec α} {f : α → Dec β} {st st1 st2 : Option (List UInt8)} {x : α} {X2 : β → Prop} (h : Stp d st st1 (fun y => y = x)) (k : Stp (f x) st1 st2 X2) : Stp (dDep d f) st st2 (fun q => q.1 = x ∧ X2 q.2) := by
  refine ⟨fun rest e => ?_, fun e bs hb => ?_⟩
  · obtain ⟨b1, y, h1, h2, h3⟩ := k.1 rest e
    obtain ⟨bs, x', g1, g2, rfl⟩ := h.1 b1 h1
    exact ⟨bs, (x', y), g1, by simp only [dDep, Dec.then, g2, h2]; rfl, rfl, h3⟩
  · cases st1 with
    | none =>
      have := h.2 rfl bs hb
      simp only [dDep, Dec.then, this]
    | some b1 =>
      obtain ⟨bs', x', g1, g2, rfl⟩ := h.1 b1 rfl
      rw [hb] at g1
      injection g1 with g1
      subst g1
      have := k.2 e b1 rfl
      simp only [dDep, Dec.then, g2, this]
      rfl
theorem Stp.dmap {α β : Type} {d : Dec α} {st st1 : Option (List UInt8)} {X : α → Prop} {Y : β → Prop} (h : Stp d st st1 X) (f : α → β) (hx : ∀ x, X x → Y (f x)) : Stp (dMap d f) st st1 Y := h.map f hx
theorem stp_never {α : Type} {d : Dec α} (st : Option (List UInt8)) {X : α → Prop} (h : ∀ bs, d bs = none) : Stp d st none X := ⟨fun _ e => (by cases e), fun _ bs _ => h bs⟩
end Go.Proofs.Ythdjfcfbmmmmcaa
