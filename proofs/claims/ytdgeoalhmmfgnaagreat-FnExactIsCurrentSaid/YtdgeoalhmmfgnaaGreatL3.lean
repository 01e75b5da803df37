/- Regions, a function's entry and its returns, calls by contract. A contract from a walk of the body; a call by contract. Loops whose state is reckoned from the state at hand: what the body writes is forgotten, then what the annotation says is laid over it. Owned trees, lent to calls that read. Regions that draw their order: operations that leave the function's own memory alone, and calls whose results are plain data: one walk, in the order of the text, serves every order. Calls whose arguments hold rows of the caller (from then on only read); contracts whose results are taken as plain data. Owned trees: lent to calls that read, handed to functions that write. Calls that write into owned trees. Functions that are handed a row: they hand it back turned, or turn it in place. Functions that are handed two rows: the second one's elements go into the first one, which comes back (slices.Insert). Regions that draw their order and make memory: what an operation makes stays with the slot that holds it (a tag) until the region ends; one walk, in the order of the text, serves every order. What tags mean; every operation of such a region keeps it; the region's end. The operations of a region that draws its order and makes memory: each keeps what tags mean. Regions that draw their order and make memory: the rule. The rules by which the walk reckons. -/
import Derived.Test.YtdgeoalhmmfgnaaGreatL2
import Derived.Deep.Quiet
set_option linter.all false
section
set_option linter.all false
namespace Go.Sx
open Go Go.RowKit
def nthO : List Oper → Nat → Option Oper
 | [], _ => none
 | x :: _, 0 => some x
 | _ :: xs, n + 1 => nthO xs n
theorem nthO_eq (l : List Oper) (n : Nat) : nthO l n = l[n]? := by
 induction l generalizing n with
 | nil => rfl
 | cons x xs ih => cases n with
  | zero => rfl
  | succ n => simpa [nthO] using ih n
def dstOf (all : List Oper) (j : Nat) (st : St) : SV :=
 match nthO all j with
 | some o => match o.dst with
  | some d => nth st.t d
  | none => .o .u
 | none => .o .u
def vcGuard (s : SV) (b : Bool) (yes no : Prop) (_ : Tie yes) (_ : Tie no) : Prop :=
 match s with
 | .o (.d (.v (.bool c))) => (c = b → yes) ∧ (c = !b → no)
 | .t [] => no
 | _ => False
def vcOps (E : Env) (all : List Oper) : List Oper → St → (St → Prop) → Prop
 | [], st, K => K st
 | o :: r, st, K => match o.guard with
  | none => vcOp E o.op st fun st' s => vcOps E all r (st'.put o.dst s) K
  | some (j, b) => vcGuard (dstOf all j st) b (vcOp E o.op st fun st' s => vcOps E all r (st'.put o.dst s) K) (vcOps E all r (st.put o.dst (.t [])) K) ⟨⟩ ⟨⟩
section
variable {E : Env}
theorem yielded_ok {g : List Gh} {V : View} {st : St} {a : Act} (h : Sl g V st.t a) (all : List Oper) (j : Nat) (c : Bool) :
    (dstOf all j st = .o (.d (.v (.bool c))) → yielded all.toArray a.tmps j = some c) ∧ (dstOf all j st = .t [] → yielded all.toArray a.tmps j = none) := by
 unfold dstOf yielded
 rw [nthO_eq]
 cases ho : all[j]? with
 | none => simp
 | some o =>
  have h1 : all.toArray[j]? = some o := by simpa using ho
  simp only [h1, Option.bind_some]
  cases hd : o.dst with
  | none => simp
  | some d =>
   simp only [Option.bind_some]
   have hev := ev_ok h (.tmp d)
   simp only [ev, Act.eval] at hev
   constructor
   ·intro e
    rw [e] at hev
    obtain ⟨hv, _⟩ := cSV_scalar hev
    rcases Nat.lt_or_ge d a.tmps.size with hl | hl
    ·have e1 : a.tmps.getD d undef = a.tmps[d] := by simp [Array.getD, hl]
     rw [Array.getElem?_eq_getElem hl, ← e1, hv]
    ·have e1 : a.tmps.getD d undef = undef := by simp [Array.getD, Nat.not_lt.2 hl]
     rw [e1] at hv; cases hv
   ·intro e
    rw [e] at hev
    obtain ⟨ys, hv, hl0, _⟩ := hev
    rcases Nat.lt_or_ge d a.tmps.size with hl | hl
    ·have e1 : a.tmps.getD d undef = a.tmps[d] := by simp [Array.getD, hl]
     rw [Array.getElem?_eq_getElem hl, ← e1, hv]
    ·rw [Array.getElem?_eq_none hl]
theorem vcOps_ok (hT : TyOK E.P E.T) (hE : ∀ t, E.eqk t ≠ [] → EqT E.P t (E.eqk t)) {all : List Oper} {Q : Exit → Act → World → Prop} {K : St → Prop} (hQ : ∀ g V st a w, Rel E.C g V st a w → K st → Q .normal a w) :
    ∀ {l : List Oper} {st : St} {g : List Gh} {V : View} {a : Act} {w : World}, vcOps E all l st K → Rel E.C g V st a w → wpList E.P all.toArray Q l a w := by
 intro l
 induction l with
 | nil => intro st g V a w h hr; exact hQ g V st a w hr h
 | cons o r ih =>
  intro st g V a w h hr
  simp only [vcOps] at h
  cases hgd : o.guard with
  | none =>
   rw [hgd] at h
   refine wpList_plain hgd fun K' hK' => ?_
   exact vcOp_ok hT hE h hr fun g' V' st' w' s y hr' hs hk => hK' _ _ (ih hk (hr'.put o.dst hs))
  | some jb =>
   obtain ⟨j, b⟩ := jb
   rw [hgd] at h
   simp only [vcGuard] at h
   refine wpList_step fun K' hK' => ?_
   have hno : vcOps E all r (st.put o.dst (.t [])) K → K' (a.put o.dst undef) w := fun hk => hK' _ _ (ih hk (hr.put o.dst (undef_ok g V)))
   have hyes : vcOp E o.op st (fun st' s => vcOps E all r (st'.put o.dst s) K) → o.wp E.P a w K' Q := fun hk =>
    vcOp_ok hT hE hk hr fun g' V' st' w' s y hr' hs hk => hK' _ _ (ih hk (hr'.put o.dst hs))
   split at h
   ·rename_i c e
    have hy := (yielded_ok hr.sl all j c).1 e
    simp only [Region.wanted, hgd, hy]
    by_cases hcb : c = b
    ·subst hcb
     simp only [beq_self_eq_true, if_true]
     exact hyes (h.1 rfl)
    ·have hne : (some c == some b) = false := by simpa using hcb
     rw [hne]
     simp only [Bool.false_eq_true, if_false]
     exact hno (h.2 (by cases c <;> cases b <;> simp_all))
   ·rename_i e
    have hy := (yielded_ok hr.sl all j true).2 e
    simp only [Region.wanted, hgd, hy]
    have hne : ((none : Option Bool) == some b) = false := rfl
    rw [hne]
    simp only [Bool.false_eq_true, if_false]
    exact hno h
   ·exact h.elim
theorem WP_region (hT : TyOK E.P E.T) (hE : ∀ t, E.eqk t ≠ [] → EqT E.P t (E.eqk t)) {id : Nat} {ops : List Oper} {F : Ex → St → Prop} {st : St} (h : vcOps E ops ops st (F .normal)) : WP E.P E.C (.region id ops.toArray false) F st :=
 fun _ _ _ _ hr => wp_region_lit (vcOps_ok hT hE (fun g V st _ _ hr h => ⟨g, V, st, hr, h⟩) h hr)
theorem WP_cond {c : Operand} {x y : Code} {F : Ex → St → Prop} {st : St} {b : Bool} (hc : ev st c = .o (.d (.v (.bool b)))) (h1 : b = true → WP E.P E.C x F st) (h2 : b = false → WP E.P E.C y F st) : WP E.P E.C (.cond c x y) F st := by
 intro g V a w hr
 have := ev_ok hr.sl c
 rw [hc] at this
 obtain ⟨hv, _⟩ := cSV_scalar this
 exact wp_cond_split hv (fun e => h1 e g V a w hr) (fun e => h2 e g V a w hr)
end
def Sees (C : Ctx) (st st' : St) : Prop := ∀ g V a w, Rel C g V st a w → ∃ g' V', Rel C g' V' st' a w
theorem Sees.refl (C : Ctx) (st : St) : Sees C st st := fun g V _ _ h => ⟨g, V, h⟩
theorem Sees.trans {C : Ctx} {s t u : St} (h : Sees C s t) (k : Sees C t u) : Sees C s u := fun g V a w hr => by
 obtain ⟨g', V', h'⟩ := h g V a w hr
 exact k g' V' a w h'
theorem Sees.forget {C : Ctx} {s t : St} (h : s.le t) (hb : t.okB = true) : Sees C s t := fun g V _ _ hr => ⟨_, V, hr.forget h hb⟩
theorem Sees.frz {C : Ctx} {st : St} (id : Nat) {ty sz : Nat} {rows : List (List D)} {lin : Bool} (h : nthH st.h id = .row ty sz rows lin) : Sees C st ⟨st.t, setH st.h id (.frz rows lin)⟩ := fun g V a w hr => by
 obtain ⟨g', V', h1, h2, h3, h4, h5⟩ := hr.hp.frz hr.mod hr.fr.size (nthH_some h (by simp))
 refine ⟨g', V', hr.sl.mono h1 h2, by rw [setH_eq]; exact h4, h3, hr.fr, hr.vw.grow h2 h5⟩
def retV (E : Env) (st : St) : ResultVar → Option (Bool × List At)
 | .tmp t => match nth st.t t with
  | .o a => some (false, [a])
  | .g cs => some (true, cs)
  | .t _ => none
 | .cell t ty => match nth st.t t with
  | .o (.p id off) => match nthH st.h id with
   | .box _ cs => if (E.T ty).tag = 0 then none else (sub cs off (E.T ty).size).map fun r => ((E.T ty).agg, r)
   | _ => none
  | _ => none
def retVs (E : Env) (st : St) : List ResultVar → Option (List (Bool × List At))
 | [] => some []
 | r :: rs => (retV E st r).bind fun x => (retVs E st rs).map fun xs => x :: xs
def retA (h : List HB) : At → At → Prop
 | .d x, .d y => x = y
 | .z, .d y => y = .sl []
 | .z, .w _ _ rows => rows = []
 | .s id, .d y => match nthH h id with
  | .frz rows _ => y = .sl rows
  | _ => False
 | .s id, .w ty sz rows => match nthH h id with
  | .row ty' sz' rows' lin => ty' = ty ∧ sz' = sz ∧ rows' = rows ∧ lin = true
  | _ => False
 | _, _ => False
def retAs (h : List HB) : List At → List At → Prop
 | [], [] => True
 | [a], [b] => retA h a b
 | a :: as, b :: bs => retA h a b ∧ retAs h as bs
 | _, _ => False
def wIds : List At → List At → List Nat
 | .s id :: as, .w _ _ _ :: bs => id :: wIds as bs
 | _ :: as, _ :: bs => wIds as bs
 | _, _ => []
def resL : SV → List (Bool × List At)
 | .o a => [(false, [a])]
 | .g cs => [(true, cs)]
 | .t l => l
def notOne : SV → Prop
 | .t l => l.length ≠ 1
 | _ => True
structure RetOK (E : Env) (st : St) (rs : List ResultVar) (res : SV) : Prop where
 ok : ∃ l, retVs E st rs = some l ∧ l.map (fun x => (x.1, x.2.length)) = (resL res).map (fun x => (x.1, x.2.length)) ∧ retAs st.h (l.flatMap (·.2)) ((resL res).flatMap (·.2)) ∧ (wIds (l.flatMap (·.2)) ((resL res).flatMap (·.2))).Nodup
 one : notOne res
theorem retAs_get {h : List HB} : ∀ {as bs : List At}, retAs h as bs → as.length = bs.length ∧ ∀ (k : Nat) (a b : At), as[k]? = some a → bs[k]? = some b → retA h a b
 | [], [], _ => ⟨rfl, fun k a b h => by simp at h⟩
 | [a], [b], hr => ⟨rfl, fun k a' b' h1 h2 => by
  cases k with
  | zero => simp at h1 h2; subst h1; subst h2; exact hr
  | succ k => simp at h1⟩
 | a :: a2 :: as, b :: b2 :: bs, hr => by
  obtain ⟨e, k⟩ := retAs_get (as := a2 :: as) (bs := b2 :: bs) hr.2
  refine ⟨by simpa using e, fun i x y h1 h2 => ?_⟩
  cases i with
  | zero => simp at h1 h2; subst h1; subst h2; exact hr.1
  | succ i => exact k i x y (by simpa using h1) (by simpa using h2)
 | [_], _ :: _ :: _, hr => by simp [retAs] at hr
 | _ :: _ :: _, [_], hr => by simp [retAs] at hr
 | [], _ :: _, hr => by simp [retAs] at hr
 | _ :: _, [], hr => by simp [retAs] at hr
section
variable {E : Env} {C : Ctx} {g : List Gh} {V : View} {st : St} {a : Act} {w : World}
def goS (g : List Gh) : At → At → List Nat
 | .s id, .w _ _ _ => match g[id]? with
  | some x => x.blk.toList ++ x.tr
  | none => []
 | _, _ => []
def goSs (g : List Gh) : List At → List At → List (List Nat)
 | a :: as, b :: bs => goS g a b :: goSs g as bs
 | _, _ => []
theorem goSs_len (g : List Gh) : ∀ {as bs : List At}, as.length = bs.length → (goSs g as bs).length = as.length
 | [], [], _ => rfl
 | a :: as, b :: bs, h => by simp [goSs, goSs_len g (as := as) (bs := bs) (by simpa using h)]
 | [], _ :: _, h => by simp at h
 | _ :: _, [], h => by simp at h
theorem goSs_get (g : List Gh) : ∀ {as bs : List At} {k : Nat} {a b : At}, as[k]? = some a → bs[k]? = some b → (goSs g as bs)[k]? = some (goS g a b)
 | [], _, _, _, _, h, _ => by simp at h
 | _ :: _, [], _, _, _, _, h => by simp at h
 | a :: as, b :: bs, 0, x, y, h1, h2 => by simp at h1 h2; subst h1; subst h2; rfl
 | a :: as, b :: bs, k + 1, x, y, h1, h2 => by simpa [goSs] using goSs_get g (as := as) (bs := bs) (k := k) (by simpa using h1) (by simpa using h2)
theorem retA_ok (hr : Rel C g V st a w) {x r : At} {y : Value} (h : retA st.h x r) (hy : cAt g V x y) : rAt V w r y (goS g x r) := by
 cases x with
 | d x => cases r with
  | d z => have h : x = z := h; subst h; exact ⟨rfl, hy⟩
  | _ => exact h.elim
 | z => cases r with
  | d z => have h : z = .sl [] := h; subst h; have hy : y = _ := hy; subst hy; exact ⟨rfl, [], .nil⟩
  | w ty sz rows => have h : rows = [] := h; subst h; have hy : y = _ := hy; subst hy; exact ⟨by simp, [], [], LayL.nil _, .inl ⟨⟨none, rfl⟩, rfl, rfl⟩⟩
  | _ => exact h.elim
 | s id =>
  obtain ⟨gh, hg, hv, _⟩ := hy
  cases r with
  | d z =>
   simp only [retA] at h
   split at h
   ·rename_i rows lin e
    subst h
    obtain ⟨_, S, hl, _⟩ := hr.hp.hb id _ gh (nthH_some e (by simp)) hg
    exact ⟨rfl, S, by rw [hv]; exact hl⟩
   ·exact h.elim
  | w ty sz rows =>
   simp only [retA] at h
   split at h
   ·rename_i ty' sz' rows' lin e
    obtain ⟨rfl, rfl, rfl, rfl⟩ := h
    have hi := nthH_some e (by simp)
    obtain ⟨h0, ys, Ss, q1, q2, q3⟩ := hr.hp.hb id _ gh hi hg
    refine ⟨h0, ys, Ss, q1, ?_⟩
    simp only [goS, hg]
    rcases q3 with ⟨e1, e2, e3⟩ | ⟨b, cap, c, e1, e2, e3, e4, e5, e6, e7⟩
    ·subst e3
     have hss : Ss = [] := by have := q1.2.1; simpa using this
     subst hss
     obtain ⟨ao, e2⟩ := e2
     exact .inl ⟨⟨ao, by rw [hv, e2]⟩, rfl, by rw [e1, q2 rfl]; rfl⟩
    ·exact .inr ⟨b, cap, c, by rw [hv, e2], e3, e4, e5, e6, e7, hr.hp.rt id _ gh hi hg b (by simp [rootB, e1]), by rw [e1, q2 rfl]; rfl⟩
   ·exact h.elim
  | _ => exact h.elim
 | _ => cases r <;> exact h.elim
theorem goS_mem (hr : Rel C g V st a w) : ∀ {as bs : List At}, retAs st.h as bs → ∀ b ∈ (goSs g as bs).flatten, ∃ id ∈ wIds as bs, ∃ (x : Gh) (hb : HB), st.h[id]? = some hb ∧ g[id]? = some x ∧ b ∈ ownB x hb ∧ ownB x hb = x.blk.toList ++ x.tr
 | [], [], _, b, hb => by simp [goSs] at hb
 | [], _ :: _, h, _, _ => by simp [retAs] at h
 | _ :: _, [], h, _, _ => by simp [retAs] at h
 | x :: as, r :: bs, h, b, hb => by
  have hx : retA st.h x r := (retAs_get h).2 0 x r rfl rfl
  have ht : retAs st.h as bs := by
   cases as with
   | nil => cases bs with
    | nil => trivial
    | cons => simp [retAs] at h
   | cons a2 as => cases bs with
    | nil => simp [retAs] at h
    | cons b2 bs => exact h.2
  simp only [goSs, List.flatten_cons, List.mem_append] at hb
  rcases hb with hb | hb
  ·cases x with
   | s id => cases r with
    | w ty sz rows =>
     simp only [goS] at hb
     cases hg : g[id]? with
     | none => simp [hg] at hb
     | some gx =>
      simp only [hg] at hb
      simp only [retA] at hx
      split at hx
      ·rename_i ty' sz' rows' lin e
       obtain ⟨rfl, rfl, rfl, rfl⟩ := hx
       exact ⟨id, by simp [wIds], gx, _, nthH_some e (by simp), hg, by simpa [ownB] using hb, by simp [ownB]⟩
      ·exact hx.elim
    | _ => simp [goS] at hb
   | _ => simp [goS] at hb
  ·obtain ⟨id, h1, h2⟩ := goS_mem hr ht b hb
   refine ⟨id, ?_, h2⟩
   cases x <;> cases r <;> simp [wIds, h1]
theorem goS_nodup (hr : Rel C g V st a w) : ∀ {as bs : List At}, retAs st.h as bs → (wIds as bs).Nodup → (goSs g as bs).flatten.Nodup
 | [], [], _, _ => by simp [goSs]
 | [], _ :: _, h, _ => by simp [retAs] at h
 | _ :: _, [], h, _ => by simp [retAs] at h
 | x :: as, r :: bs, h, hn => by
  have hx : retA st.h x r := (retAs_get h).2 0 x r rfl rfl
  have ht : retAs st.h as bs := by
   cases as with
   | nil => cases bs with
    | nil => trivial
    | cons => simp [retAs] at h
   | cons a2 as => cases bs with
    | nil => simp [retAs] at h
    | cons b2 bs => exact h.2
  have plain : goS g x r = [] → (wIds as bs).Nodup → (goSs g (x :: as) (r :: bs)).flatten.Nodup := fun e hn' => by
   simp only [goSs, List.flatten_cons, e, List.nil_append]
   exact goS_nodup hr ht hn'
  cases x with
  | s id => cases r with
   | w ty sz rows =>
    simp only [wIds, List.nodup_cons] at hn
    simp only [retA] at hx
    split at hx
    ·rename_i ty' sz' rows' lin e
     obtain ⟨rfl, rfl, rfl, rfl⟩ := hx
     have hi := nthH_some e (by simp)
     obtain ⟨gx, hg, _⟩ := hr.ghost hi
     simp only [goSs, List.flatten_cons, goS, hg]
     have hown : ownB gx (.row ty' sz' rows' true) = gx.blk.toList ++ gx.tr := by simp [ownB]
     refine List.nodup_append.2 ⟨by rw [← hown]; exact hr.hp.nd id _ gx hi hg, goS_nodup hr ht hn.2, fun b hb c hc => ?_⟩
     rintro rfl
     obtain ⟨id', h1, x', hb', e1, e2, e3, _⟩ := goS_mem hr ht b hc
     exact hr.hp.dj id id' _ hb' gx x' (fun e => hn.1 (e ▸ h1)) hi hg e1 e2 b (by rw [hown]; exact hb) e3
    ·exact hx.elim
   | _ => exact plain rfl (by simpa [wIds] using hn)
  | _ => cases r <;> exact plain rfl (by simpa [wIds] using hn)
theorem retV_ok (hT : TyOK E.P E.T) (hr : Rel C g V st a w) {r : ResultVar} {b : Bool} {cs : List At} (h : retV E st r = some (b, cs)) :
    ∃ v l, ((match r with | .tmp t => pure (a.tmps.getD t undef) | .cell x t => do loadVar t (← asAddr (a.tmps.getD x undef))) : Sem Value).run E.P w = .ok v w ∧ (if b then v = .agg (List.toArray l) else l = [v]) ∧ cL g V cs l := by
 cases r with
 | tmp t =>
  simp only [retV] at h
  have hx := ev_ok hr.sl (.tmp t)
  simp only [ev, Act.eval] at hx
  split at h
  ·rename_i x e
   cases h
   rw [e] at hx
   exact ⟨_, [a.tmps.getD t undef], rfl, by simp, cL.cons hx (cL.nil g V)⟩
  ·rename_i x e
   cases h
   rw [e] at hx
   obtain ⟨l, hl, hc⟩ := hx
   exact ⟨_, l, rfl, by simpa using hl, hc⟩
  ·cases h
 | cell t ty =>
  simp only [retV] at h
  have hx := ev_ok hr.sl (.tmp t)
  simp only [ev, Act.eval] at hx
  split at h
  ·rename_i id off e
   rw [e] at hx
   obtain ⟨gh, bk, hg, hb, hp⟩ := hx
   split at h
   ·rename_i ty' cs' hbox
    split at h
    ·cases h
    ·rename_i htag
     simp only [Option.map_eq_some_iff] at h
     obtain ⟨r, hsub, h⟩ := h
     cases h
     obtain ⟨i, z, u, hgood⟩ := hT.good htag
     obtain ⟨b', l, e1, e2, e3⟩ := hr.hp.hb id _ gh (nthH_some hbox (by simp)) hg
     rw [hb] at e1
     cases e1
     obtain ⟨c1, c2, c3⟩ := sub_c hsub e3
     have hrun := run_loadAt hgood w ⟨bk, off, none⟩ ((l.drop off).take (E.T ty).size) c3 (fun j y hj => by
      rw [List.getElem?_take] at hj
      split at hj
      ·rw [List.getElem?_drop] at hj
       rw [Addr.add_lit, cell_of_row w bk _ _ ty' (0, 0) e2]
       simpa using hj
      ·cases hj)
     refine ⟨if (E.T ty).agg then .agg ((l.drop off).take (E.T ty).size).toArray else ((l.drop off).take (E.T ty).size).headD undef, (l.drop off).take (E.T ty).size, ?_, ?_, c1⟩
     ·simp only [hp, asAddr, Sem.run_bind, Sem.run_pure, Result.andThen_ok]
      simpa [Instr.loadAt, Instr.sureAddr] using hrun
     ·cases ha : (E.T ty).agg with
      | true => simp
      | false =>
       have h1 := hgood.agg_size ha
       rw [h1] at c3 ⊢
       match (l.drop off).take 1, c3 with
       | [y], _ => rfl
   ·cases h
  ·cases h
theorem retVs_ok (hT : TyOK E.P E.T) (hr : Rel C g V st a w) : ∀ {rs : List ResultVar} {l : List (Bool × List At)}, retVs E st rs = some l →
    ∃ (vs : List Value) (ls : List (List Value)), (rs.mapM fun r => ((match r with | .tmp t => pure (a.tmps.getD t undef) | .cell x t => do loadVar t (← asAddr (a.tmps.getD x undef))) : Sem Value)).run E.P w = .ok vs w ∧
     vs.length = l.length ∧ ls.length = l.length ∧ (∀ (k : Nat) (b : Bool) (c : List At) (m : List Value) (v : Value), l[k]? = some (b, c) → ls[k]? = some m → vs[k]? = some v → (if b then v = .agg m.toArray else m = [v]) ∧ cL g V c m) ∧ cL g V (l.flatMap (·.2)) ls.flatten
 | [], l, h => by
  simp only [retVs, Option.some.injEq] at h
  subst h
  exact ⟨[], [], rfl, rfl, rfl, fun k b c m v h => by simp at h, cL.nil g V⟩
 | r :: rs, l, h => by
  simp only [retVs, Option.bind_eq_some_iff, Option.map_eq_some_iff] at h
  obtain ⟨⟨b, cs⟩, h1, l', h2, rfl⟩ := h
  obtain ⟨v, m, e1, e2, e3⟩ := retV_ok hT hr h1
  obtain ⟨vs, ls, f1, f2, f3, f4, f5⟩ := retVs_ok hT hr h2
  refine ⟨v :: vs, m :: ls, ?_, by simp [f2], by simp [f3], fun k b' c m' v' q1 q2 q3 => ?_, ?_⟩
  ·rw [List.mapM_cons]
   simp only [Sem.run_bind, e1, Result.andThen_ok, f1, Sem.run_pure]
  ·cases k with
   | zero => simp at q1 q2 q3; obtain ⟨rfl, rfl⟩ := q1; subst q2; subst q3; exact ⟨e2, e3⟩
   | succ k => exact f4 k b' c m' v' (by simpa using q1) (by simpa using q2) (by simpa using q3)
  ·simpa using e3.append f5
end
end Go.Sx
end
section
set_option linter.all false
namespace Go.Sx
open Go Go.RowKit
section
variable {E : Env} {C : Ctx} {g : List Gh} {V : View} {st : St} {a : Act} {w : World}
def rvM (a : Act) : ResultVar → Sem Value
 | .tmp t => pure (a.tmps.getD t undef)
 | .cell x t => do loadVar t (← asAddr (a.tmps.getD x undef))
theorem results_ok {fn : Func} {rs : List ResultVar} (hf : fn.results = rs.toArray) {P : Program} {vs : List Value} (h : (rs.mapM (rvM a)).run P w = .ok vs w) :
    (results fn a.tmps).run P w = .ok (match vs with | [v] => v | _ => .tuple vs.toArray) w := by
 unfold results
 rw [hf]
 have : (rs.toArray.mapM (rvM a)).run P w = .ok vs.toArray w := by
  rw [List.mapM_toArray]
  simp [h]
 show (Sem.run P (do
  let vs ← rs.toArray.mapM (rvM a)
  pure (if h : vs.size = 1 then vs[0] else .tuple vs)) w) = _
 simp only [Sem.run_bind, this, Result.andThen_ok, Sem.run_pure]
 match vs with
 | [] => rfl
 | [v] => rfl
 | v :: v' :: r => simp
theorem all_resL (res : SV) : res.all = (resL res).flatMap (·.2) := by
 cases res <;> simp [SV.all, resL]
theorem ret_done (hT : TyOK E.P E.T) (hX : C.X = []) (hr : Rel C g V st a w) {fn : Func} {rs : List ResultVar} (hf : fn.results = rs.toArray) {res : SV} (h : RetOK E st rs res) :
    ∃ y, (results fn a.tmps).run E.P w = .ok y w ∧ Done C.V0 C.w0 res y w := by
 obtain ⟨⟨l, h1, h2, h3, h4⟩, hone⟩ := h
 obtain ⟨vs, ls, f1, f2, f3, f4, f5⟩ := retVs_ok hT hr h1
 have f1' : (rs.mapM (rvM a)).run E.P w = .ok vs w := by
  rw [← f1]
  congr 2
 refine ⟨_, results_ok hf f1', ⟨V, (goSs g (l.flatMap (·.2)) ((resL res).flatMap (·.2))).flatten, hr.vw.le, hr.mod, fun b cs q1 q2 => ?_, ⟨ls.flatten, ?_, ?_⟩, goS_nodup hr h3 h4, fun b hb => ?_⟩, ?_⟩
 ·have := hr.vw.fresh b cs q1 q2
  rw [hX] at this
  exact ⟨by simpa using this, hr.vw.unf b cs q1 q2⟩
 ·
  have hlen : l.length = (resL res).length := by simpa using congrArg List.length h2
  have hget : ∀ (k : Nat) (b : Bool) (c : List At), (resL res)[k]? = some (b, c) → ∃ c', l[k]? = some (b, c') ∧ c'.length = c.length := fun k b c hk => by
   have := congrArg (fun z => z[k]?) h2
   simp only [List.getElem?_map, hk, Option.map_some] at this
   cases hl : l[k]? with
   | none => rw [hl] at this; cases this
   | some x =>
    rw [hl] at this
    simp only [Option.map_some, Option.some.injEq, Prod.mk.injEq] at this
    exact ⟨x.2, by rw [← this.1], this.2⟩
  have one : ∀ (b : Bool) (c : List At), resL res = [(b, c)] → ∃ v m, vs = [v] ∧ ls = [m] ∧ (if b then v = .agg m.toArray else m = [v]) := fun b c e => by
   obtain ⟨c', hc', _⟩ := hget 0 b c (by rw [e]; rfl)
   rw [e] at hlen
   match vs, f2.trans hlen, ls, f3.trans hlen with
   | [v], _, [m], _ => exact ⟨v, m, rfl, rfl, (f4 0 b c' m v hc' rfl rfl).1⟩
  cases res with
  | o x =>
   obtain ⟨v, m, rfl, rfl, e⟩ := one false [x] rfl
   simpa [shapeOf] using e
  | g cs =>
   obtain ⟨v, m, rfl, rfl, e⟩ := one true cs rfl
   simpa [shapeOf] using e
  | t cs =>
   refine ⟨ls, f3.trans hlen, rfl, fun k b c m hk hm => ?_, vs, ?_, f2.trans hlen, fun k b c m v hk hm hv => ?_⟩
   ·obtain ⟨c', hc', e⟩ := hget k b c hk
    have hv : k < vs.length := by rw [f2, ← f3]; exact (List.getElem?_eq_some_iff.1 hm).1
    have := (f4 k b c' m _ hc' hm (List.getElem?_eq_getElem hv)).2.1
    omega
   ·have hne : vs.length ≠ 1 := by rw [f2, hlen]; exact hone
    match vs, hne with
    | [], _ => rfl
    | v :: v' :: r, _ => rfl
   ·obtain ⟨c', hc', e⟩ := hget k b c hk
    exact (f4 k b c' m v hc' hm hv).1
 ·have hl := retAs_get h3
  refine ⟨goSs g (l.flatMap (·.2)) ((resL res).flatMap (·.2)), ?_, ?_, rfl, fun k x y s e1 e2 e3 => ?_⟩
  ·rw [f5.1, hl.1, all_resL]
  ·rw [goSs_len g hl.1, hl.1, all_resL]
  ·rw [all_resL] at e1
   have hk : k < (l.flatMap (·.2)).length := by rw [hl.1]; exact (List.getElem?_eq_some_iff.1 e1).1
   have e0 : (l.flatMap (·.2))[k]? = some ((l.flatMap (·.2))[k]) := List.getElem?_eq_getElem hk
   rw [goSs_get g e0 e1] at e3
   cases e3
   exact retA_ok hr (hl.2 k _ x e0 e1) (f5.2 k _ y e0 e2)
 ·obtain ⟨id, _, x, hb', e1, e2, e3, _⟩ := goS_mem hr h3 b hb
  have := hr.hp.lo id hb' x e1 e2 b e3
  rw [hX] at this
  exact ⟨by simpa using this.1, this.2⟩
 ·exact ⟨hr.fr.os, hr.fr.tape, hr.fr.output, hr.fr.size, fun k hk => hr.fr.block k hk (by rw [hX]; simp)⟩
def retK (E : Env) (rs : List ResultVar) (res : SV) : Ex → St → Prop
 | .ret, st => ∃ st', Sees E.C st st' ∧ RetOK E st' rs res
 | .normal, st => ∃ st', Sees E.C st st' ∧ RetOK E st' rs res
 | .exit _, _ => False
theorem retK_ret {E : Env} {rs : List ResultVar} {res : SV} {st : St} (h : RetOK E st rs res) : retK E rs res .ret st := ⟨st, Sees.refl _ _, h⟩
theorem retK_sees {E : Env} {rs : List ResultVar} {res : SV} {st st' : St} {e : Ex} (h : Sees E.C st st') (k : retK E rs res e st') : retK E rs res e st := by
 cases e with
 | ret => obtain ⟨s, h1, h2⟩ := k; exact ⟨s, h.trans h1, h2⟩
 | normal => obtain ⟨s, h1, h2⟩ := k; exact ⟨s, h.trans h1, h2⟩
 | exit j => exact k.elim
def st0 (args : List SV) (n : Nat) : St := ⟨args ++ List.replicate (n - args.length) (.t []), []⟩
theorem FnC.of_wp {P : Program} {T : Nat → Ty} {eqk : Nat → List Nat} (hT : TyOK P T) {f : Nat} {fn : Func} {c : Code} {rs : List ResultVar} {args : List SV} {res : SV}
    (hf : P.funcs[f]? = some fn) (hb : fn.body = some c) (hcall : ∀ as w, (callFunc f as).run P w = .ok (.enter f as) w) (hres : fn.results = rs.toArray)
    (h : ∀ C : Ctx, C.X = [] → WP P C c (kont P C [] (retK ⟨P, T, C, eqk⟩ rs res)) (st0 args fn.ntmps)) : FnC P f args res := by
 refine ⟨hcall, fun V w vs hm ha => ?_⟩
 let C : Ctx := ⟨w, [], V⟩
 refine calls_of_wp hf hb ?_
 have hr : Rel C [] V (st0 args fn.ntmps) { tmps := vs.toArray ++ Array.replicate (fn.ntmps - vs.toArray.size) undef, defers := [] } w := by
  refine ⟨⟨by simp [st0, ha.1], fun i s y h1 h2 => ?_, rfl⟩, ⟨rfl, fun i b x h => by simp [st0] at h, fun i b x h => by simp [st0] at h, fun i j b b' x x' _ h => by simp [st0] at h, fun i b x h => by simp [st0] at h, fun i b x h => by simp [st0] at h⟩, hm,
   ⟨rfl, rfl, rfl, Nat.le_refl _, fun _ _ _ => rfl⟩, ⟨View.le.refl V, (fun b cs h1 h2 => by have h2' : V b = none := h2; rw [h1] at h2'; cases h2'), (fun b cs h1 h2 => by have h2' : V b = none := h2; rw [h1] at h2'; cases h2')⟩⟩
  simp only [st0] at h1
  rw [List.getElem?_append] at h1
  rw [Array.getElem?_append] at h2
  simp only [List.size_toArray, ha.1] at h2
  split at h1
  ·rw [if_pos ‹_›] at h2
   exact ha.2 i s y h1 (by simpa using h2)
  ·rw [if_neg ‹_›] at h2
   rw [List.getElem?_replicate] at h1
   rw [Array.getElem?_replicate] at h2
   split at h1
   ·rw [if_pos ‹_›] at h2
    cases h1; cases h2; exact undef_ok _ _
   ·cases h1
 refine wp_mono (h C rfl [] V _ w hr) fun e a' w' q => ?_
 cases e with
 | normal =>
  obtain ⟨g, V', st', hr', s, hs, hret⟩ := q
  obtain ⟨g2, V2, hr2⟩ := hs g V' a' w' hr'
  obtain ⟨y, hy, hd⟩ := ret_done (E := ⟨P, T, C, eqk⟩) hT rfl hr2 hres hret
  exact ⟨hr'.sl.defers, y, hy, y, rfl, hd⟩
 | ret =>
  obtain ⟨g, V', st', hr', s, hs, hret⟩ := q
  obtain ⟨g2, V2, hr2⟩ := hs g V' a' w' hr'
  obtain ⟨y, hy, hd⟩ := ret_done (E := ⟨P, T, C, eqk⟩) hT rfl hr2 hres hret
  exact ⟨hr'.sl.defers, y, hy, y, rfl, hd⟩
 | exit id => obtain ⟨g, V', st', hr', q⟩ := q; exact q.elim
 | goto l => exact q.elim
 | panic ch => exact q.elim
 | outgrown => exact q.elim
end
def pureA (h : List HB) : At → At
 | .s id => match nthH h id with
  | .frz rows _ => .d (.sl rows)
  | _ => .u
 | .z => .d (.sl [])
 | a => a
def pureS (h : List HB) : SV → SV
 | .o a => .o (pureA h a)
 | .g cs => .g (cs.map (pureA h))
 | .t l => .t l
def freeA : At → Bool
 | .u => false
 | .p .. | .r .. | .s _ | .w .. | .e .. | .n .. => false
 | _ => true
def freeS : SV → Bool
 | .o a => freeA a
 | .g cs => cs.all freeA
 | .t l => l.isEmpty
theorem pureA_ok {C : Ctx} {g : List Gh} {V : View} {st : St} {a : Act} {w : World} (hr : Rel C g V st a w) {x : At} {y : Value} (h : cAt g V x y) : cAt g V (pureA st.h x) y := by
 cases x with
 | s id =>
  simp only [pureA]
  split
  ·rename_i rows lin e
   obtain ⟨gh, hg, hv, _⟩ := h
   obtain ⟨_, S, hl, _⟩ := hr.hp.hb id _ gh (nthH_some e (by simp)) hg
   exact ⟨S, by rw [hv]; exact hl⟩
  ·trivial
 | z => have h : y = _ := h; subst h; exact ⟨[], .nil⟩
 | _ => exact h
theorem pureS_ok {C : Ctx} {g : List Gh} {V : View} {st : St} {a : Act} {w : World} (hr : Rel C g V st a w) {s : SV} {y : Value} (h : cSV g V s y) : cSV g V (pureS st.h s) y := by
 cases s with
 | o x => exact pureA_ok hr h
 | g cs =>
  obtain ⟨l, hl, hc⟩ := h
  refine ⟨l, hl, by simp [hc.1], fun k x z h1 h2 => ?_⟩
  rw [List.getElem?_map] at h1
  cases hk : cs[k]? with
  | none => rw [hk] at h1; cases h1
  | some c => rw [hk] at h1; cases h1; exact pureA_ok hr (hc.2 k c z hk h2)
 | t l => exact h
theorem freeA_ok {g : List Gh} {V : View} {x : At} {y : Value} (h : cAt g V x y) (hf : freeA x = true) : cAt [] V x y := by
 cases x <;> first | exact h | simp [freeA] at hf
theorem freeS_ok {g : List Gh} {V : View} {s : SV} {y : Value} (h : cSV g V s y) (hf : freeS s = true) : cSV [] V s y := by
 cases s with
 | o x => exact freeA_ok h hf
 | g cs => obtain ⟨l, hl, hc⟩ := h; exact ⟨l, hl, hc.1, fun k x z h1 h2 => freeA_ok (hc.2 k x z h1 h2) (List.all_eq_true.1 hf x (List.mem_of_getElem? h1))⟩
 | t l =>
  obtain ⟨ys, h1, h2, h3⟩ := h
  have : l = [] := by simpa [freeS] using hf
  subst this
  exact ⟨ys, h1, h2, fun k b cs v h => by simp at h⟩
def adA : Nat → List At → List At
 | _, [] => []
 | n, .w _ _ _ :: cs => .s n :: adA (n + 1) cs
 | n, a :: cs => a :: adA n cs
def adH : List At → List HB
 | [] => []
 | .w ty sz rows :: cs => .row ty sz rows true :: adH cs
 | _ :: cs => adH cs
def adT : Nat → List (Bool × List At) → List (Bool × List At)
 | _, [] => []
 | n, (b, cs) :: l => (b, adA n cs) :: adT (n + (adH cs).length) l
def adS (n : Nat) : SV → SV
 | .o a => match adA n [a] with
  | [x] => .o x
  | _ => .o .u
 | .g cs => .g (adA n cs)
 | .t l => .t (adT n l)
theorem adA_len : ∀ (n : Nat) (cs : List At), (adA n cs).length = cs.length
 | _, [] => rfl
 | n, a :: cs => by cases a <;> simp [adA, adA_len]
theorem adA_app : ∀ (n : Nat) (cs ds : List At), adA n (cs ++ ds) = adA n cs ++ adA (n + (adH cs).length) ds
 | n, [], ds => by simp [adA, adH]
 | n, a :: cs, ds => by
  cases a <;> simp [adA, adH, adA_app]
  all_goals (congr 1; omega)
theorem adopt_ok {C : Ctx} {V : View} {a : Act} {w : World} : ∀ {cs : List At} {st : St} {g : List Gh} {l : List Value} {Ss : List (List Nat)}, Rel C g V st a w → l.length = cs.length → Ss.length = cs.length →
    (∀ (k : Nat) (x : At) (y : Value) (s : List Nat), cs[k]? = some x → l[k]? = some y → Ss[k]? = some s → rAt V w x y s) → Ss.flatten.Nodup →
    (∀ b ∈ Ss.flatten, (C.w0.heap.size ≤ b ∨ b ∈ C.X) ∧ b < w.heap.size ∧ ∀ (i : Nat) (hb : HB) (x : Gh), st.h[i]? = some hb → g[i]? = some x → b ∉ ownB x hb) →
    ∃ g', Rel C g' V ⟨st.t, st.h ++ adH cs⟩ a w ∧ GLe g g' ∧ cL g' V (adA st.h.length cs) l := by
 intro cs
 induction cs with
 | nil =>
  intro st g l Ss hr hl hS hk hn hb
  have : l = [] := List.eq_nil_of_length_eq_zero hl
  subst this
  exact ⟨g, by simpa [adH] using hr, GLe.refl g, cL.nil g V⟩
 | cons c cs ih =>
  intro st g l Ss hr hl hS hk hn hb
  obtain ⟨y, l', rfl⟩ : ∃ y l', l = y :: l' := by cases l with
   | nil => simp at hl
   | cons y l' => exact ⟨y, l', rfl⟩
  obtain ⟨S, Ss', rfl⟩ : ∃ S Ss', Ss = S :: Ss' := by cases Ss with
   | nil => simp at hS
   | cons S Ss' => exact ⟨S, Ss', rfl⟩
  generalize l' = l at *
  generalize Ss' = Ss at *
  ·skip
   have hy := hk 0 c y S rfl rfl rfl
   have hl2 : l.length = cs.length := by simpa using hl
   have hS2 : Ss.length = cs.length := by simpa using hS
   simp only [List.flatten_cons] at hn hb
   have hn2 := (List.nodup_append.1 hn).2.1
   have hk' : ∀ (k : Nat) (x : At) (y : Value) (s : List Nat), cs[k]? = some x → l[k]? = some y → Ss[k]? = some s → rAt V w x y s := fun k x y s e1 e2 e3 => hk (k + 1) x y s (by simpa using e1) (by simpa using e2) (by simpa using e3)
   cases c with
   | d x =>
    obtain ⟨rfl, T, hT⟩ := hy
    obtain ⟨g', h1, h2, h3⟩ := ih hr hl2 hS2 hk' hn2 (fun b hb' => hb b (List.mem_append.2 (.inr hb')))
    exact ⟨g', h1, h2, cL.cons ⟨T, hT⟩ h3⟩
   | w ty sz rows =>
    obtain ⟨h0, ys, Ts, q1, q2⟩ := hy
    have push : ∀ (x : Gh), x.val = y → ownB x (.row ty sz rows true) = S → (∀ n ∈ rootB x (.row ty sz rows true), V n = none) → HBok (g ++ [x]) V w x (.row ty sz rows true) → y.oneCell' = true →
        ∃ g', Rel C g' V ⟨st.t, st.h ++ adH (.w ty sz rows :: cs)⟩ a w ∧ GLe g g' ∧ cL g' V (adA st.h.length (.w ty sz rows :: cs)) (y :: l) := by
     intro x hxv hown hroot hok hone
     have hr1 : Rel C (g ++ [x]) V (st.push (.row ty sz rows true)) a w := ⟨hr.sl.mono (GLe.push _ _) (View.le.refl V), hr.hp.push hok (by rw [hown]; exact (List.nodup_append.1 hn).1)
      (fun n hn' => by rw [hown] at hn'; exact ⟨(hb n (List.mem_append.2 (.inl hn'))).1, (hb n (List.mem_append.2 (.inl hn'))).2.1⟩)
      (fun i b' x' e1 e2 n hn' hm => by rw [hown] at hm; exact (hb n (List.mem_append.2 (.inl hm))).2.2 i b' x' e1 e2 hn') hroot, hr.mod, hr.fr, hr.vw⟩
     obtain ⟨g', h1, h2, h3⟩ := ih hr1 hl2 hS2 hk' hn2 (fun b hb' => by
      obtain ⟨p1, p2, p3⟩ := hb b (List.mem_append.2 (.inr hb'))
      refine ⟨p1, p2, fun i hb2 x2 e1 e2 => ?_⟩
      rcases Nat.lt_trichotomy i st.h.length with hi | hi | hi
      ·simp only [St.push] at e1
       rw [List.getElem?_append_left hi] at e1
       rw [List.getElem?_append_left (by rw [hr.hp.glen]; exact hi)] at e2
       exact p3 i hb2 x2 e1 e2
      ·simp only [St.push] at e1
       subst hi
       rw [List.getElem?_append_right (Nat.le_refl _)] at e1
       rw [List.getElem?_append_right (by rw [hr.hp.glen]; exact Nat.le_refl _)] at e2
       simp [hr.hp.glen] at e1 e2
       subst e1; subst e2
       rw [hown]
       exact fun hm => (List.nodup_append.1 hn).2.2 b hm b hb' rfl
      ·simp only [St.push] at e1
       rw [List.getElem?_eq_none (by simp; omega)] at e1
       cases e1)
     have hlen : g.length = st.h.length := hr.hp.glen
     refine ⟨g', by simpa [St.push, adH] using h1, (GLe.push g [x]).trans h2, cL.cons ?_ (by simpa [St.push] using h3)⟩
     obtain ⟨x', e1, e2, e3, _⟩ := h2 st.h.length x (by rw [List.getElem?_append_right (by omega)]; simp [hlen])
     exact ⟨x', e1, by rw [e3, hxv], hone⟩
    rcases q2 with ⟨⟨ao, e1⟩, e2, e3⟩ | ⟨b, cap, c, e1, e2, e3, e4, e5, e6, e7, e8⟩
    ·subst e2
     have hTs : Ts = [] := by have := q1.2.1; simpa using this
     subst hTs
     refine push ⟨none, y, [], []⟩ rfl (by simp [ownB, e3]) (fun n hn' => by simp [rootB] at hn') ⟨h0, ys, [], q1, fun _ => rfl, .inl ⟨rfl, ⟨ao, e1⟩, rfl⟩⟩ (by rw [e1]; rfl)
    ·refine push ⟨some b, y, Ts.flatten, []⟩ rfl (by simp [ownB, e8]) (fun n hn' => by simp [rootB] at hn'; subst hn'; exact e7) ⟨h0, ys, Ts, q1, fun _ => rfl, .inr ⟨b, cap, c, rfl, e1, e2, e3, e4, e5, e6⟩⟩ (by rw [e1]; rfl)
   | _ => exact hy.elim
theorem adT_get : ∀ (n : Nat) (l : List (Bool × List At)) (ls : List (List Value)) {g : List Gh} {V : View}, ls.length = l.length →
    (∀ (k : Nat) (b : Bool) (c : List At) (m : List Value), l[k]? = some (b, c) → ls[k]? = some m → m.length = c.length) → cL g V (adA n (l.flatMap (·.2))) ls.flatten →
    ∀ (k : Nat) (b : Bool) (c : List At) (m : List Value), (adT n l)[k]? = some (b, c) → ls[k]? = some m → (∃ c0, l[k]? = some (b, c0)) ∧ cL g V c m
 | n, [], ls, g, V, hl, hlen, hc, k, b, c, m, h1, h2 => by simp [adT] at h1
 | n, (b0, c0) :: l, [], g, V, hl, hlen, hc, k, b, c, m, h1, h2 => by simp at hl
 | n, (b0, c0) :: l, m0 :: ls, g, V, hl, hlen, hc, k, b, c, m, h1, h2 => by
  have hm0 := hlen 0 b0 c0 m0 rfl rfl
  simp only [List.flatMap_cons, List.flatten_cons, adA_app] at hc
  have hA : (adA n c0).length = c0.length := adA_len n c0
  cases k with
  | zero =>
   simp only [adT, List.getElem?_cons_zero, Option.some.injEq, Prod.mk.injEq] at h1 h2
   obtain ⟨rfl, rfl⟩ := h1
   subst h2
   refine ⟨⟨c0, rfl⟩, ?_⟩
   have := hc.take c0.length
   rw [List.take_append_of_le_length (by omega), List.take_of_length_le (by omega), List.take_append_of_le_length (by omega), List.take_of_length_le (by omega)] at this
   exact this
  | succ k =>
   simp only [adT, List.getElem?_cons_succ] at h1 h2 ⊢
   have hd := hc.drop c0.length
   rw [List.drop_append_of_le_length (by omega), List.drop_of_length_le (by omega), List.drop_append_of_le_length (by omega), List.drop_of_length_le (by omega)] at hd
   exact adT_get _ l ls (by simpa using hl) (fun k b c m e1 e2 => hlen (k + 1) b c m (by simpa using e1) (by simpa using e2)) (by simpa using hd) k b c m h1 h2
theorem adT_len : ∀ (n : Nat) (l : List (Bool × List At)), (adT n l).length = l.length
 | _, [] => rfl
 | n, (b, c) :: l => by simp [adT, adT_len]
theorem CallS.of_fn {E : Env} {f : Nat} {args args' : List SV} {res : SV} {st : St} {K : St → SV → Prop} (h : FnC E.P f args' res) (he : args.map (pureS st.h) = args') (hfree : args'.all freeS = true)
    (k : K ⟨st.t, st.h ++ adH res.all⟩ (adS st.h.length res)) : CallS E f args st K := by
 refine ⟨h.enters, fun g V a w vs hr hlen hargs => ?_⟩
 subst he
 have hc : cArgs V (args.map (pureS st.h)) vs := by
  refine ⟨by simp [hlen], fun i s y h1 h2 => ?_⟩
  have hs := List.all_eq_true.1 hfree s (List.mem_of_getElem? h1)
  rw [List.getElem?_map] at h1
  cases hk : args[i]? with
  | none => rw [hk] at h1; cases h1
  | some s0 =>
   rw [hk] at h1
   cases h1
   exact freeS_ok (pureS_ok hr (hargs i s0 y hk h2)) hs
 refine (h.calls V w vs hr.mod hc).mono ?_
 rintro e w' ⟨y, rfl, ⟨V', S, hv, hm, hnew, ⟨l, hshape, Ss, r1, r2, r3, r4⟩, hnd, hblk⟩, hbelow⟩
 have hr1 := hr.later hv hm hbelow hnew
 subst r3
 obtain ⟨g', h1, h2, h3⟩ := adopt_ok (cs := res.all) hr1 r1 r2 r4 hnd (fun b hb => ⟨.inl (Nat.le_trans hr.fr.size (hblk b hb).1), (hblk b hb).2, fun i hb' x e1 e2 hm' => by
  have := (hr.hp.lo i hb' x e1 e2 b hm').2
  have := (hblk b hb).1
  omega⟩)
 refine ⟨y, g', V', _, _, rfl, h1, ?_, k⟩
 cases res with
 | o x =>
  have hl : l = [y] := hshape
  subst hl
  simp only [SV.all] at h3
  simp only [adS]
  have hlen1 : (adA st.h.length [x]).length = 1 := adA_len _ _
  match he' : adA st.h.length [x], hlen1 with
  | [z], _ =>
   rw [he'] at h3
   exact h3.2 0 z y rfl rfl
 | g cs => exact ⟨l, hshape, h3⟩
 | t cs =>
  obtain ⟨ls, e1, e2, e3, ys, e4, e5, e6⟩ := hshape
  subst e2
  refine ⟨ys, e4, by rw [e5, adT_len], fun i b c v hi hv' => ?_⟩
  have hlt : i < ls.length := by rw [e1, ← adT_len st.h.length cs]; exact (List.getElem?_eq_some_iff.1 hi).1
  have hm' : ls[i]? = some ls[i] := List.getElem?_eq_getElem hlt
  obtain ⟨⟨c0, hc0⟩, hcc⟩ := adT_get st.h.length cs ls e1 e3 h3 i b c _ hi hm'
  have := e6 i b c0 _ v hc0 hm' hv'
  cases b with
  | true => simp only [if_true] at this ⊢; exact ⟨_, this, hcc⟩
  | false => simp only [Bool.false_eq_true, if_false] at this ⊢; rw [← this]; exact hcc
end Go.Sx
end
section
set_option linter.all false
namespace Go.Sx
open Go Go.RowKit
def dsO : List Oper → List Nat
 | [] => []
 | o :: os => match o.dst with
  | some d => d :: dsO os
  | none => dsO os
def dsts : Code → List Nat
 | .region _ ops _ => dsO ops.toList
 | .seq a b => dsts a ++ dsts b
 | .cond _ a b => dsts a ++ dsts b
 | .block _ c => dsts c
 | .loop c => dsts c
 | _ => []
def fgt : List SV → List Nat → List SV
 | l, [] => l
 | l, n :: ns => fgt (setN l n (.o .u)) ns
def mds : List SV → List (Nat × SV) → List SV
 | l, [] => l
 | l, x :: r => mds (setN l x.1 x.2) r
def mhs : List HB → List (Nat × HB) → List HB
 | l, [] => l
 | l, x :: r => mhs (setH l x.1 x.2) r
def loopI {α : Type} (body : Code) (st : St) (M : α → List (Nat × SV)) (H : α → List (Nat × HB)) (a : α) : St := ⟨mds (fgt st.t (dsts body)) (M a), mhs st.h (H a)⟩
section
variable {P : Program} {C : Ctx} {ks : List Kn} {F : Ex → St → Prop} {st : St}
theorem WP_lp {body : Code} {α : Type} (M : α → List (Nat × SV)) (H : α → List (Nat × HB)) (Q : α → Prop) (μ : α → Nat) (x : α) (hok : ∀ x, (loopI body st M H x).okB = true) (h0 : st.le (loopI body st M H x)) (hq : Q x)
    (round : ∀ x, Q x → WP P C body (kont P C [] (loopK (loopI body st M H) Q μ x (kont P C ks F))) (loopI body st M H x)) : WP P C (.loop body) (kont P C ks F) st :=
 WP_loop (loopI body st M H) Q μ x hok h0 hq round
theorem L_ret {α : Type} {I : α → St} {Q : α → Prop} {μ : α → Nat} {x : α} (h : F .ret st) : loopK I Q μ x F .ret st := h
theorem L_exit {α : Type} {I : α → St} {Q : α → Prop} {μ : α → Nat} {x : α} {j : Nat} (h : F (.exit j) st) : loopK I Q μ x F (.exit j) st := h
theorem L_next {α : Type} {I : α → St} {Q : α → Prop} {μ : α → Nat} {x : α} (y : α) (h : st.le (I y)) (hq : Q y) (hm : μ y < μ x) : loopK I Q μ x F .normal st := ⟨y, ⟨[], st, rfl, h⟩, hq, hm⟩
theorem L_nexts {α : Type} {I : α → St} {Q : α → Prop} {μ : α → Nat} {x : α} (l : List (Nat × Nat)) (y : α) {s : St} (hs : swL st l = some s) (h : s.le (I y)) (hq : Q y) (hm : μ y < μ x) : loopK I Q μ x F .normal st := ⟨y, ⟨l, s, hs, h⟩, hq, hm⟩
end
section
variable {P : Program} {C : Ctx} {F : Ex → St → Prop} {st : St} {code : Code}
end
end Go.Sx
end
section
set_option linter.all false
namespace Go.Sx
open Go Go.RowKit
theorem own_lay {w : World} {sz : Nat} {rows : List (List D)} {y : Value} {S : List Nat} {hd : List Value} (h : OwnR w sz rows y S hd) : ∃ U : View, Mod U w ∧ (∀ b cs, U b = some cs → b ∈ S ∧ Unf w b) ∧ Lay U (.sl rows) y S := by
 obtain ⟨h0, U, ys, Ss, h1, h2, h3, h4, h5⟩ := h
 refine ⟨U, h1, h2, ?_⟩
 rcases h5 with ⟨rfl, rfl, rfl⟩ | ⟨a, cap, rfl, e1, e2, e3, rfl⟩
 ·exact .nil
 ·exact .sl rows a cap sz ys Ss h0 e1 e2 h3.1 h3.2.1 e3 h3.2.2
theorem own_one {w : World} {sz : Nat} {rows : List (List D)} {y : Value} {S : List Nat} {hd : List Value} (h : OwnR w sz rows y S hd) : y.oneCell' = true := by
 obtain ⟨U, _, _, h⟩ := own_lay h
 exact h.oneCell
def lendV (V : View) (w : World) : View := fun b => match V b with
 | some cs => some cs
 | none => match w.heap[b]? with
  | some (.cells c _ _) => some c.toList
  | _ => none
theorem lendV_le (V : View) (w : World) : V.le (lendV V w) := fun b cs h => ⟨cs, by simp [lendV, h], List.prefix_refl _⟩
theorem lendV_mod {V : View} {w : World} (h : Mod V w) : Mod (lendV V w) w := fun b cs hb => by
 cases hc : V b with
 | some cs' => simp [lendV, hc] at hb; subst hb; exact h b cs' hc
 | none =>
  simp only [lendV, hc] at hb
  split at hb
  ·rename_i c ty fz e
   cases hb
   exact ⟨c, ty, fz, e, List.prefix_refl _⟩
  ·cases hb
theorem lend_lay {C : Ctx} {g : List Gh} {V : View} {h : List HB} {w : World} (hp : Hp C g V h w) {id : Nat} {tag : Option (Value × List Nat × List Value)} {sz : Nat} {rows : List (List D)} {x : Gh} (hi : h[id]? = some (.own tag sz rows)) (hg : g[id]? = some x) :
    ∃ S, Lay (lendV V w) (.sl rows) x.val S := by
 obtain ⟨_, hO⟩ := hp.hb id _ x hi hg
 obtain ⟨U, h1, h2, h3⟩ := own_lay hO
 refine ⟨_, h3.mono fun b cs hb => ?_⟩
 have hV : V b = none := hp.rt id _ x hi hg b (h2 b cs hb).1
 obtain ⟨c, ty, fz, e1, e2⟩ := h1 b cs hb
 exact ⟨c.toList, by simp [lendV, hV, e1], e2⟩
theorem lend_row {C : Ctx} {g : List Gh} {V : View} {h : List HB} {w : World} (hp : Hp C g V h w) {id : Nat} {ty sz : Nat} {rows : List (List D)} {lin : Bool} {x : Gh} (hi : h[id]? = some (.row ty sz rows lin)) (hg : g[id]? = some x) :
    ∃ S, Lay (lendV V w) (.sl rows) x.val S := by
 obtain ⟨h0, ys, Ss, h1, _, h3⟩ := hp.hb id _ x hi hg
 rcases h3 with ⟨_, ⟨ao, e⟩, rfl⟩ | ⟨b, cap, c, eb, e2, e3, e4, e5, e6, e7⟩
 ·rw [e]
  cases ao with
  | none => exact ⟨_, .nil⟩
  | some ad => exact ⟨_, .sl [] ad 0 0 [] [] (by simp) (by simp) (by simp [maxLen]) rfl rfl (fun k y h => by simp at h) (fun k d y S h => by simp at h)⟩
 ·have hV : V b = none := hp.rt id _ x hi hg b (by simp [rootB, eb])
  have h1' := h1.mono (lendV_le V w)
  rw [e2]
  refine ⟨_, .sl rows ⟨b, 0, none⟩ cap sz ys Ss h0 e3 e4 h1'.1 h1'.2.1 (fun k y hk => ?_) h1'.2.2⟩
  rw [Addr.add_lit, Nat.zero_add]
  simp only [View.cell, lendV, hV, e5, Option.isSome_none, Bool.false_eq_true, if_false, Option.bind_some]
  exact prefix_get e7 hk
def pureO (h : List HB) : At → At
 | .s id => match nthH h id with
  | .frz rows _ => .d (.sl rows)
  | .own _ _ rows => .d (.sl rows)
  | .row _ _ rows _ => .d (.sl rows)
  | _ => .u
 | .z => .d (.sl [])
 | a => a
def pureOS (h : List HB) : SV → SV
 | .o a => .o (pureO h a)
 | .g cs => .g (cs.map (pureO h))
 | .t l => .t l
theorem pureO_ok {C : Ctx} {g : List Gh} {V : View} {st : St} {a : Act} {w : World} (hr : Rel C g V st a w) {x : At} {y : Value} (h : cAt g V x y) : cAt g (lendV V w) (pureO st.h x) y := by
 have hm := cAt.mono h (GLe.refl g) (lendV_le V w)
 cases x with
 | s id =>
  simp only [pureO]
  obtain ⟨gh, hg, hv, _⟩ := h
  split
  ·rename_i rows lin e
   obtain ⟨_, S, hl, _⟩ := hr.hp.hb id _ gh (nthH_some e (by simp)) hg
   exact ⟨S, by rw [hv]; exact hl.mono (lendV_le V w)⟩
  ·rename_i tag sz rows e
   obtain ⟨S, hl⟩ := lend_lay hr.hp (nthH_some e (by simp)) hg
   exact ⟨S, by rw [hv]; exact hl⟩
  ·rename_i ty sz rows lin e
   obtain ⟨S, hl⟩ := lend_row hr.hp (nthH_some e (by simp)) hg
   exact ⟨S, by rw [hv]; exact hl⟩
  ·trivial
 | z => have h : y = _ := h; subst h; exact ⟨[], .nil⟩
 | _ => exact hm
theorem pureOS_ok {C : Ctx} {g : List Gh} {V : View} {st : St} {a : Act} {w : World} (hr : Rel C g V st a w) {s : SV} {y : Value} (h : cSV g V s y) : cSV g (lendV V w) (pureOS st.h s) y := by
 cases s with
 | o x => exact pureO_ok hr h
 | g cs =>
  obtain ⟨l, hl, hc⟩ := h
  refine ⟨l, hl, by simp [hc.1], fun k x z h1 h2 => ?_⟩
  rw [List.getElem?_map] at h1
  cases hk : cs[k]? with
  | none => rw [hk] at h1; cases h1
  | some c => rw [hk] at h1; cases h1; exact pureO_ok hr (hc.2 k c z hk h2)
 | t l => exact cSV.mono (s := .t l) h (GLe.refl g) (lendV_le V w)
def oAt (w : World) : At → Value → List Nat × List Value → Prop
 | .d (.v x), y, p => y = x ∧ scalar x = true ∧ p.1 = []
 | .w _ sz rows, y, p => OwnR w sz rows y p.1 p.2
 | _, _, _ => False
def oL (w : World) (cs : List At) (l : List Value) (Ps : List (List Nat × List Value)) : Prop :=
 l.length = cs.length ∧ Ps.length = cs.length ∧ ∀ (k : Nat) (a : At) (y : Value) (p : List Nat × List Value), cs[k]? = some a → l[k]? = some y → Ps[k]? = some p → oAt w a y p
abbrev trs (Ps : List (List Nat × List Value)) : List Nat := (Ps.map (·.1)).flatten
def adG (tg : Nat → Option (Value × List Nat × List Value)) : Nat → List At → List HB
 | _, [] => []
 | j, .w _ sz rows :: cs => .own (tg j) sz rows :: adG tg (j + 1) cs
 | j, _ :: cs => adG tg j cs
def tagOK (tg : Nat → Option (Value × List Nat × List Value)) : Nat → List At → List Value → List (List Nat × List Value) → Prop
 | j, .w _ _ _ :: cs, y :: l, p :: Ps => (∀ q, tg j = some q → q = (y, p.1, p.2)) ∧ tagOK tg (j + 1) cs l Ps
 | j, _ :: cs, _ :: l, _ :: Ps => tagOK tg j cs l Ps
 | _, _, _, _ => True
theorem adoptO_ok {C : Ctx} {V : View} {a : Act} {w : World} {tg : Nat → Option (Value × List Nat × List Value)} : ∀ {cs : List At} {j : Nat} {st : St} {g : List Gh} {l : List Value} {Ps : List (List Nat × List Value)}, Rel C g V st a w → oL w cs l Ps → (trs Ps).Nodup →
    (∀ b ∈ trs Ps, (C.w0.heap.size ≤ b ∨ b ∈ C.X) ∧ b < w.heap.size ∧ V b = none ∧ ∀ (i : Nat) (hb : HB) (x : Gh), st.h[i]? = some hb → g[i]? = some x → b ∉ ownB x hb) → tagOK tg j cs l Ps →
    ∃ g', Rel C g' V ⟨st.t, st.h ++ adG tg j cs⟩ a w ∧ GLe g g' ∧ cL g' V (adA st.h.length cs) l := by
 intro cs
 induction cs with
 | nil =>
  intro j st g l Ps hr hl hn hb ht
  have : l = [] := List.eq_nil_of_length_eq_zero hl.1
  subst this
  exact ⟨g, by simpa [adG] using hr, GLe.refl g, cL.nil g V⟩
 | cons c cs ih =>
  intro j st g l Ps hr hl hn hb ht
  obtain ⟨hl1, hl2, hl3⟩ := hl
  obtain ⟨y, l', rfl⟩ : ∃ y l', l = y :: l' := by cases l with
   | nil => simp at hl1
   | cons y l' => exact ⟨y, l', rfl⟩
  obtain ⟨p, Ps', rfl⟩ : ∃ p Ps', Ps = p :: Ps' := by cases Ps with
   | nil => simp at hl2
   | cons p Ps' => exact ⟨p, Ps', rfl⟩
  have hy := hl3 0 c y p rfl rfl rfl
  have hl' : oL w cs l' Ps' := ⟨by simpa using hl1, by simpa using hl2, fun k a y p e1 e2 e3 => hl3 (k + 1) a y p (by simpa using e1) (by simpa using e2) (by simpa using e3)⟩
  simp only [trs, List.map_cons, List.flatten_cons] at hn hb
  have hn2 := (List.nodup_append.1 hn).2.1
  cases c with
  | d x => cases x with
   | v x =>
    obtain ⟨rfl, hsc, hp⟩ := hy
    obtain ⟨g', h1, h2, h3⟩ := ih (j := j) hr hl' hn2 (fun b hb' => hb b (List.mem_append.2 (.inr hb'))) (by simpa [tagOK] using ht)
    exact ⟨g', h1, h2, cL.cons ⟨[], .v _ hsc⟩ h3⟩
   | sl r => exact hy.elim
  | w ty sz rows =>
   have hO : OwnR w sz rows y p.1 p.2 := hy
   obtain ⟨ht1, ht2⟩ : (∀ q, tg j = some q → q = (y, p.1, p.2)) ∧ tagOK tg (j + 1) cs l' Ps' := ht
   let x : Gh := ⟨none, y, p.1, p.2⟩
   have hown : ownB x (.own (tg j) sz rows) = p.1 := rfl
   have hok : HBok (g ++ [x]) V w x (.own (tg j) sz rows) := ⟨fun v S hd e => by have := ht1 _ e; cases this; exact ⟨rfl, rfl, rfl⟩, hO⟩
   have hr1 : Rel C (g ++ [x]) V (st.push (.own (tg j) sz rows)) a w := ⟨hr.sl.mono (GLe.push _ _) (View.le.refl V), hr.hp.push hok (by rw [hown]; exact (List.nodup_append.1 hn).1)
    (fun n hn' => by rw [hown] at hn'; exact ⟨(hb n (List.mem_append.2 (.inl hn'))).1, (hb n (List.mem_append.2 (.inl hn'))).2.1⟩)
    (fun i b' x' e1 e2 n hn' hm => by rw [hown] at hm; exact (hb n (List.mem_append.2 (.inl hm))).2.2.2 i b' x' e1 e2 hn')
    (fun n hn' => (hb n (List.mem_append.2 (.inl hn'))).2.2.1), hr.mod, hr.fr, hr.vw⟩
   obtain ⟨g', h1, h2, h3⟩ := ih (j := j + 1) hr1 hl' hn2 (fun b hb' => by
    obtain ⟨p1, p2, p3, p4⟩ := hb b (List.mem_append.2 (.inr hb'))
    refine ⟨p1, p2, p3, fun i hb2 x2 e1 e2 => ?_⟩
    rcases Nat.lt_trichotomy i st.h.length with hi | hi | hi
    ·simp only [St.push] at e1
     rw [List.getElem?_append_left hi] at e1
     rw [List.getElem?_append_left (by rw [hr.hp.glen]; exact hi)] at e2
     exact p4 i hb2 x2 e1 e2
    ·simp only [St.push] at e1
     subst hi
     rw [List.getElem?_append_right (Nat.le_refl _)] at e1
     rw [List.getElem?_append_right (by rw [hr.hp.glen]; exact Nat.le_refl _)] at e2
     simp [hr.hp.glen] at e1 e2
     subst e1; subst e2
     rw [hown]
     exact fun hm => (List.nodup_append.1 hn).2.2 b hm b hb' rfl
    ·simp only [St.push] at e1
     rw [List.getElem?_eq_none (by simp; omega)] at e1
     cases e1) ht2
   have hlen : g.length = st.h.length := hr.hp.glen
   refine ⟨g', by simpa [St.push, adG] using h1, (GLe.push g [x]).trans h2, cL.cons ?_ (by simpa [St.push] using h3)⟩
   obtain ⟨x', e1, _, e3, _⟩ := h2 st.h.length x (by rw [List.getElem?_append_right (by omega)]; simp [hlen])
   exact ⟨x', e1, e3.symm, own_one hO⟩
  | _ => exact hy.elim
def isWS : At → Bool
 | .w .. => true
 | .d (.v _) => true
 | _ => false
theorem own_of_row {V : View} {w : World} {ty sz : Nat} {rows : List (List D)} {y : Value} {S : List Nat} (h : RowR V w ty sz rows y S) (hu : ∀ b ∈ S, ∀ cs, V b = some cs → Unf w b) (hm : Mod V w) : ∃ p : List Nat × List Value, p.1.Sublist S ∧ OwnR w sz rows y p.1 p.2 := by
 obtain ⟨h0, ys, Ss, h1, h2⟩ := h
 rcases h2 with ⟨⟨ao, e1⟩, e2, e3⟩ | ⟨b, cap, c, e1, e2, e3, e4, e5, e6, e7, e8⟩
 ·subst e2; subst e3
  have hys : ys = [] := by have := h1.1; simpa using this
  subst hys
  cases ao with
  | some ad => exact ⟨([], []), List.Sublist.refl _, h0, fun _ => none, [], [], (fun b cs hb => by cases hb), (fun b cs hb => by cases hb), LayL.nil _, (fun k rs q => by simp at q), .inr ⟨ad, 0, e1, by simp, by simp, (fun k z hk => by simp at hk), by simp⟩⟩
  | none =>
  exact ⟨([], []), List.Sublist.refl _, h0, fun _ => none, [], [], (fun b cs hb => by cases hb), (fun b cs hb => by cases hb), LayL.nil _, (fun k rs q => by simp at q), .inl ⟨e1, rfl, rfl⟩⟩
 ·let T : List Nat := (if rows.isEmpty then [] else [b]) ++ Ss.flatten
  have hT : T.Sublist S := by
   rw [e8]
   simp only [T]
   split
   ·exact List.sublist_cons_self _ _
   ·exact List.Sublist.refl _
  let U : View := fun n => if n ∈ T then (if n = b then some ys else V n) else none
  refine ⟨(T, ys), hT, h0, U, ys, Ss, fun n cs hn => ?_, fun n cs hn => ?_, ⟨h1.1, h1.2.1, fun k d z S' q1 q2 q3 => ?_⟩, fun k rs _ => rfl, .inr ⟨⟨b, 0, none⟩, cap, e1, e2, e3, fun k z hk => ?_, rfl⟩⟩
  ·simp only [U] at hn
   split at hn
   ·split at hn
    ·rename_i hnb
     subst hnb; cases hn
     exact ⟨c, ty, (0, 0), e4, e6⟩
    ·exact hm n cs hn
   ·cases hn
  ·simp only [U] at hn
   split at hn
   ·rename_i hnT
    refine ⟨hnT, ?_⟩
    split at hn
    ·rename_i hnb; subst hnb; exact ⟨c, ty, e4⟩
    ·exact hu n (hT.subset hnT) cs hn
   ·cases hn
  ·refine (h1.2.2 k d z S' q1 q2 q3).restrict fun n hn cs hcs => ⟨cs, ?_, List.prefix_refl _⟩
   have hnT : n ∈ T := List.mem_append.2 (.inr (List.mem_flatten.2 ⟨S', List.mem_of_getElem? q3, hn⟩))
   have hnb : n ≠ b := fun e => by rw [e, e7] at hcs; cases hcs
   simp only [U, if_pos hnT, if_neg hnb]
   exact hcs
  ·have hne : rows.isEmpty = false := by
    cases rows with
    | nil => have := h1.1; simp at this; subst this; simp at hk
    | cons => rfl
   have hbT : b ∈ T := by simp [T, hne]
   rw [Addr.add_lit, Nat.zero_add]
   simp only [View.cell, U, if_pos hbT, if_true, Option.isSome_none, Bool.false_eq_true, if_false, Option.bind_some]
   exact hk
theorem own_of_rL {V : View} {w : World} (hm : Mod V w) : ∀ {cs : List At} {l : List Value} {Ss : List (List Nat)}, l.length = cs.length → Ss.length = cs.length →
    (∀ (k : Nat) (x : At) (y : Value) (s : List Nat), cs[k]? = some x → l[k]? = some y → Ss[k]? = some s → rAt V w x y s) → (∀ b ∈ Ss.flatten, ∀ c, V b = some c → Unf w b) → cs.all isWS = true → ∃ Ps, oL w cs l Ps ∧ (trs Ps).Sublist Ss.flatten
 | [], l, Ss, hl, hS, _, _, _ => ⟨[], ⟨hl, rfl, fun k a y p h => by simp at h⟩, by simp [trs]⟩
 | c :: cs, [], Ss, hl, _, _, _, _ => by simp at hl
 | c :: cs, y :: l, [], _, hS, _, _, _ => by simp at hS
 | c :: cs, y :: l, S :: Ss, hl, hS, hk, hu, hw => by
  simp only [List.all_cons, Bool.and_eq_true] at hw
  obtain ⟨Ps, h1, h2⟩ := own_of_rL hm (cs := cs) (l := l) (Ss := Ss) (by simpa using hl) (by simpa using hS) (fun k x y s e1 e2 e3 => hk (k + 1) x y s (by simpa using e1) (by simpa using e2) (by simpa using e3))
   (fun b hb => hu b (by simp only [List.flatten_cons]; exact List.mem_append.2 (.inr hb))) hw.2
  have hy := hk 0 c y S rfl rfl rfl
  have mk : ∀ p : List Nat × List Value, oAt w c y p → p.1.Sublist S → ∃ Ps, oL w (c :: cs) (y :: l) Ps ∧ (trs Ps).Sublist (S :: Ss).flatten := fun p hp hs =>
   ⟨p :: Ps, ⟨by simp [h1.1], by simp [h1.2.1], fun k a' y' p' e1 e2 e3 => by
    cases k with
    | zero => simp at e1 e2 e3; subst e1; subst e2; subst e3; exact hp
    | succ k => exact h1.2.2 k a' y' p' (by simpa using e1) (by simpa using e2) (by simpa using e3)⟩, by
    simp only [trs, List.map_cons, List.flatten_cons]
    exact hs.append h2⟩
  cases c with
  | d x => cases x with
   | v x =>
    obtain ⟨rfl, T, hT⟩ := hy
    cases hT with
    | v _ hsc => exact mk ([], []) ⟨rfl, hsc, rfl⟩ (List.Sublist.refl _)
   | sl r => simp [isWS] at hw
  | w ty sz rows =>
   obtain ⟨p, hp1, hp2⟩ := own_of_row hy (fun b hb => hu b (by simp only [List.flatten_cons]; exact List.mem_append.2 (.inl hb))) hm
   exact mk p hp2 hp1
  | _ => simp [isWS] at hw
theorem tagOK_none : ∀ (j : Nat) (cs : List At) (l : List Value) (Ps : List (List Nat × List Value)), tagOK (fun _ => none) j cs l Ps
 | j, [], _, _ => by cases ‹List Value› <;> trivial
 | j, c :: cs, [], _ => by cases c <;> trivial
 | j, c :: cs, y :: l, [] => by cases c <;> trivial
 | j, c :: cs, y :: l, p :: Ps => by
  cases c <;> first | exact tagOK_none _ cs l Ps | exact ⟨fun q h => (by cases h), tagOK_none _ cs l Ps⟩
theorem Mod.of_le {V V' : View} {w : World} (h : Mod V' w) (hv : V.le V') : Mod V w := fun b cs hb => by
 obtain ⟨cs', h1, h2⟩ := hv b cs hb
 obtain ⟨c, ty, fz, e1, e2⟩ := h b cs' h1
 exact ⟨c, ty, fz, e1, h2.trans e2⟩
theorem adG_len (tg : Nat → Option (Value × List Nat × List Value)) : ∀ (j : Nat) (cs : List At), (adG tg j cs).length = (adH cs).length
 | _, [] => rfl
 | j, c :: cs => by cases c <;> simp [adG, adH, adG_len]
theorem CallS.lend {E : Env} {f : Nat} {args args' : List SV} {res : SV} {st : St} {K : St → SV → Prop} (h : FnC E.P f args' res) (he : args.map (pureOS st.h) = args') (hfree : args'.all freeS = true) (hres : res.all.all isWS = true)
    (k : K ⟨st.t, st.h ++ adG (fun _ => none) 0 res.all⟩ (adS st.h.length res)) : CallS E f args st K := by
 refine ⟨h.enters, fun g V a w vs hr hlen hargs => ?_⟩
 subst he
 have hc : cArgs (lendV V w) (args.map (pureOS st.h)) vs := by
  refine ⟨by simp [hlen], fun i s y h1 h2 => ?_⟩
  have hs := List.all_eq_true.1 hfree s (List.mem_of_getElem? h1)
  rw [List.getElem?_map] at h1
  cases hk : args[i]? with
  | none => rw [hk] at h1; cases h1
  | some s0 =>
   rw [hk] at h1
   cases h1
   exact freeS_ok (pureOS_ok hr (hargs i s0 y hk h2)) hs
 refine (h.calls (lendV V w) w vs (lendV_mod hr.mod) hc).mono ?_
 rintro e w' ⟨y, rfl, ⟨V', S, hv, hm, hnew, ⟨l, hshape, Ss, r1, r2, r3, r4⟩, hnd, hblk⟩, hbelow⟩
 have hVV' : V.le V' := (lendV_le V w).trans hv
 have hr1 : Rel E.C g V st a w' := hr.later (View.le.refl V) (hm.of_le hVV') hbelow (fun b cs h1 h2 => by rw [h1] at h2; cases h2)
 subst r3
 have hfresh : ∀ b, w.heap.size ≤ b → lendV V w b = none := fun b hb => (lendV_mod hr.mod).fresh hb
 obtain ⟨Ps, hP, hsub⟩ := own_of_rL hm r1 r2 r4 (fun b hb c hc => (hnew b c hc (hfresh b (hblk b hb).1)).2) hres
 obtain ⟨g', h1, h2, h3⟩ := adoptO_ok (tg := fun _ => none) (j := 0) hr1 hP (hsub.nodup hnd) (fun b hb => by
  have hb' := hsub.subset hb
  refine ⟨.inl (Nat.le_trans hr.fr.size (hblk b hb').1), (hblk b hb').2, ?_, fun i hb2 x e1 e2 hm' => ?_⟩
  ·exact hr.mod.fresh (hblk b hb').1
  ·have := (hr.hp.lo i hb2 x e1 e2 b hm').2
   have := (hblk b hb').1
   omega) (tagOK_none _ _ _ _)
 refine ⟨y, g', V, _, _, rfl, h1, ?_, k⟩
 cases res with
 | o x =>
  have hl : l = [y] := hshape
  subst hl
  simp only [SV.all] at h3
  simp only [adS]
  have hlen1 : (adA st.h.length [x]).length = 1 := adA_len _ _
  match he' : adA st.h.length [x], hlen1 with
  | [z], _ =>
   rw [he'] at h3
   exact h3.2 0 z y rfl rfl
 | g cs => exact ⟨l, hshape, h3⟩
 | t cs =>
  obtain ⟨ls, e1, e2, e3, ys, e4, e5, e6⟩ := hshape
  subst e2
  refine ⟨ys, e4, by rw [e5, adT_len], fun i b c v hi hv' => ?_⟩
  have hlt : i < ls.length := by rw [e1, ← adT_len st.h.length cs]; exact (List.getElem?_eq_some_iff.1 hi).1
  have hm' : ls[i]? = some ls[i] := List.getElem?_eq_getElem hlt
  obtain ⟨⟨c0, hc0⟩, hcc⟩ := adT_get st.h.length cs ls e1 e3 h3 i b c _ hi hm'
  have := e6 i b c0 _ v hc0 hm' hv'
  cases b with
  | true => simp only [if_true] at this ⊢; exact ⟨_, this, hcc⟩
  | false => simp only [Bool.false_eq_true, if_false] at this ⊢; rw [← this]; exact hcc
theorem LayL.flat {V V' : View} {ds : List D} {ys : List Value} {Ss : List (List Nat)} (h : LayL V' ds ys Ss) (hf : ds.all isV = true) : LayL V ds ys Ss :=
 ⟨h.1, h.2.1, fun k d y S h1 h2 h3 => by
  have := h.2.2 k d y S h1 h2 h3
  have hv := List.all_eq_true.1 hf d (List.mem_of_getElem? h1)
  cases d with
  | v x => cases this with
   | v _ h => exact .v _ h
  | sl rows => cases hv⟩
theorem CallS.lendD {E : Env} {f ty sz : Nat} {rows : List (List D)} {args args' : List SV} {st : St} {K : St → SV → Prop} (h : FnC E.P f args' (.o (.w ty sz rows))) (he : args.map (pureOS st.h) = args') (hfree : args'.all freeS = true) (hflat : flatB rows = true)
    (k : K st (.o (.d (.sl rows)))) : CallS E f args st K := by
 refine ⟨h.enters, fun g V a w vs hr hlen hargs => ?_⟩
 subst he
 have hc : cArgs (lendV V w) (args.map (pureOS st.h)) vs := by
  refine ⟨by simp [hlen], fun i s y h1 h2 => ?_⟩
  have hs := List.all_eq_true.1 hfree s (List.mem_of_getElem? h1)
  rw [List.getElem?_map] at h1
  cases hk : args[i]? with
  | none => rw [hk] at h1; cases h1
  | some s0 =>
   rw [hk] at h1
   cases h1
   exact freeS_ok (pureOS_ok hr (hargs i s0 y hk h2)) hs
 refine (h.calls (lendV V w) w vs (lendV_mod hr.mod) hc).mono ?_
 rintro e w' ⟨y, rfl, ⟨V', S, hv, hm, hnew, ⟨l, hshape, Ss, r1, r2, r3, r4⟩, hnd, hblk⟩, hbelow⟩
 have hVV' : V.le V' := (lendV_le V w).trans hv
 have hl : l = [y] := hshape
 subst hl
 have hr0 : Rel E.C g V st a w' := hr.later (View.le.refl V) (hm.of_le hVV') hbelow (fun b cs h1 h2 => by rw [h1] at h2; cases h2)
 match Ss, r2 with
 | [s], _ =>
  obtain ⟨p0, ys, Ts, p1, p2⟩ := r4 0 _ y s rfl rfl rfl
  have hfl : rows.flatten.all isV = true := by
   rw [List.all_eq_true]
   intro d hd
   obtain ⟨r, hr', hd'⟩ := List.mem_flatten.1 hd
   exact List.all_eq_true.1 (List.all_eq_true.1 hflat r hr') d hd'
  rcases p2 with ⟨⟨ao, rfl⟩, rfl, _⟩ | ⟨b, cap, c, rfl, q2, q3, q4, q5, q6, q7, q8⟩
  ·refine ⟨_, g, V, st, .o (.d (.sl [])), rfl, hr0, ?_, k⟩
   cases ao with
   | none => exact ⟨_, .nil⟩
   | some ad => exact ⟨_, .sl [] ad 0 sz [] [] (fun r h => by simp at h) (by simp) (by simp) rfl rfl (fun k y h => by simp at h) (fun k d y S h => by simp at h)⟩
  ·have hbS : b ∈ S := by rw [r3]; simp [q8]
   have hb := hblk b hbS
   have hVb : V b = none := hr.mod.fresh hb.1
   have hle : V.le (fun n => if n = b then some ys else V n) := fun n cs hn => by
    have : n ≠ b := fun e => by rw [e, hVb] at hn; cases hn
    exact ⟨cs, by simp [this, hn], List.prefix_refl _⟩
   refine ⟨_, g, fun n => if n = b then some ys else V n, st, .o (.d (.sl rows)), rfl, hr.later hle ?_ hbelow ?_, ⟨_, .sl rows ⟨b, 0, none⟩ cap sz ys Ts p0 q2 q3 p1.1 p1.2.1 (fun j y hj => ?_) (p1.flat hfl).2.2⟩, k⟩
   ·intro n cs hn
    by_cases e : n = b
    ·subst e
     simp only [if_true, Option.some.injEq] at hn
     subst hn
     exact ⟨c, ty, (0, 0), q4, q6⟩
    ·simp only [if_neg e] at hn
     exact hr0.mod n cs hn
   ·intro n cs hn hn0
    by_cases e : n = b
    ·subst e; exact ⟨hb.1, c, ty, q4⟩
    ·simp only [if_neg e] at hn
     rw [hn] at hn0; cases hn0
   ·rw [Addr.add_lit, Nat.zero_add]
    simp [View.cell, hj]
end Go.Sx
end
section
set_option linter.all false
namespace Go.Sx
open Go Go.RowKit
def isD : At → Bool
 | .d _ => true
 | _ => false
structure CallD (E : Env) (f : Nat) (args : List SV) (h : List HB) (k : SV → Prop) (t : Tie k) : Prop where
 out : (∃ args' res, FnC E.P f args' res ∧ (args.map (pureS h) = args' ∨ (args.map (pureOS h) = args' ∧ res.all.all isWS = true)) ∧ args'.all freeS = true ∧ res.all.all isD = true ∧ k res) ∨
  ∃ args' ty sz rows, FnC E.P f args' (.o (.w ty sz rows)) ∧ args.map (pureOS h) = args' ∧ args'.all freeS = true ∧ flatB rows = true ∧ k (.o (.d (.sl rows)))
def bndR (ρ : Operand → SV) (dflt : Nat) : Option Operand → Option Int
 | none => some dflt
 | some x => match ρ x with
  | .o (.d (.v (.int _ n))) => some n
  | _ => none
theorem bndR_ev (st : St) (n : Nat) (x : Option Operand) : bndR (ev st) n x = bnd st n x := by
 cases x <;> rfl
def vcDSlice (E : Env) (t : Nat) (x : SV) (lo hi : Option Operand) (ρ : Operand → SV) (h : List HB) (k : SV → Prop) : Prop :=
 match x with
 | .o (.d (.v (.string s))) => match bndR ρ 0 lo, bndR ρ s.size hi with
  | some l, some h => (E.T t).tag = 5 ∧ 0 ≤ l ∧ l ≤ h ∧ h ≤ s.size ∧ k (os (s.extract l.toNat h.toNat))
  | _, _ => False
 | .o (.d (.sl rows)) => match bndR ρ 0 lo, bndR ρ rows.length hi with
  | some l, some h => (E.T t).tag = 2 ∧ (E.T (E.T t).elem).tag ≠ 0 ∧ (∀ r ∈ rows, r.length = (E.T (E.T t).elem).size) ∧ 0 ≤ l ∧ l ≤ h ∧ h ≤ rows.length ∧ k (.o (.d (.sl ((rows.take h.toNat).drop l.toNat))))
  | _, _ => False
 | .o (.s id) => match nthH h id with
  | .frz rows _ => match bndR ρ 0 lo, bndR ρ rows.length hi with
   | some l, some h => (E.T t).tag = 2 ∧ (E.T (E.T t).elem).tag ≠ 0 ∧ uni (E.T (E.T t).elem).size rows ∧ 0 ≤ l ∧ l ≤ h ∧ h ≤ rows.length ∧ k (.o (.d (.sl ((rows.take h.toNat).drop l.toNat))))
   | _, _ => False
  | _ => False
 | _ => False
def buildR (E : Env) (ρ : Operand → SV) (flds : List (Nat × Nat)) : List At → List (Nat × Operand) → Option (List At)
 | cs, [] => some cs
 | cs, (i, x) :: r => match nthP flds i with
  | some (o, ft) => if boxable (ρ x) && (ρ x).cells.length == (E.T ft).size then (splice cs o (ρ x).cells).bind fun cs' => buildR E ρ flds cs' r else none
  | none => none
theorem buildR_ev (E : Env) (st : St) (flds : List (Nat × Nat)) : ∀ (l : List (Nat × Operand)) (cs : List At), buildR E (ev st) flds cs l = buildC E st flds cs l
 | [], _ => rfl
 | (i, x) :: r, cs => by
  have ih : (fun cs' => buildR E (ev st) flds cs' r) = fun cs' => buildC E st flds cs' r := funext fun cs' => buildR_ev E st flds r cs'
  simp only [buildR, buildC, ih]
  cases nthP flds i <;> rfl
theorem buildR_congr (E : Env) {ρ ρ' : Operand → SV} (flds : List (Nat × Nat)) : ∀ (l : List (Nat × Operand)) (cs : List At), (∀ p ∈ l, ρ p.2 = ρ' p.2) → buildR E ρ flds cs l = buildR E ρ' flds cs l
 | [], _, _ => rfl
 | (i, x) :: r, cs, h => by
  have h1 : ρ x = ρ' x := h (i, x) (by simp)
  have ih : (fun cs' => buildR E ρ flds cs' r) = fun cs' => buildR E ρ' flds cs' r := funext fun cs' => buildR_congr E flds r cs' fun p hp => h p (by simp [hp])
  simp only [buildR, h1, ih]
def vcDBuild (E : Env) (t : Nat) (parts : List (Nat × Operand)) (ρ : Operand → SV) (k : SV → Prop) : Prop :=
 match buildR E ρ (E.T t).flds (E.T t).zero parts with
 | some cs => (E.T t).tag = 1 ∧ (E.T t).flds.all (fun p => (E.T p.2).tag != 0) = true ∧ k (.g cs)
 | none => False
def vcD (E : Env) (op : Op) (ρ : Operand → SV) (h : List HB) (k : SV → Prop) : Prop :=
 match op with
 | .move x => k (ρ x)
 | .assign x => k (ρ x)
 | .pick c x y => vcPick (ρ c) (k (ρ x)) (k (ρ y)) ⟨⟩ ⟨⟩
 | .load t x => vcLoad E t (ρ x) ⟨[], h⟩ fun _ s => k s
 | .fieldAddr t x f => vcFieldAddr E t (ρ x) f ⟨[], h⟩ fun _ s => k s
 | .field t x f => vcField E t (ρ x) f ⟨[], h⟩ fun _ s => k s
 | .indexAddr t x i => vcIndexAddr E t (ρ x) (ρ i) ⟨[], h⟩ fun _ s => k s
 | .index t x i => vcIndex E t (ρ x) (ρ i) ⟨[], h⟩ fun _ s => k s
 | .binOp op t x y _ => vcBinN E op t (ρ x) (ρ y) ⟨[], h⟩ fun _ s => k s
 | .unOp op _ x => vcUn op (ρ x) ⟨[], h⟩ fun _ s => k s
 | .convert s d x => vcConv E s d (ρ x) ⟨[], h⟩ fun _ s => k s
 | .extract x i => vcExtract (ρ x) i ⟨[], h⟩ fun _ s => k s
 | .call c => match c.callee with
  | .value f => match ρ f with
   | .o (.f fn caps) => CallD E fn (c.args.toList.map ρ ++ caps.map (fun cs => .o (.q cs))) h k ⟨⟩
   | _ => False
  | .builtin .len => match c.args.toList, c.argTypes.toList with
   | [x], [t] => vcLen E t (ρ x) ⟨[], h⟩ fun _ s => k s
   | _, _ => False
  | .builtin .max => match c.args.toList with
   | [x, y] => vcMax (ρ x) (ρ y) k
   | _ => False
  | _ => False
 | .slice t x lo hi none => vcDSlice E t (ρ x) lo hi ρ h k
 | .build t parts => vcDBuild E t parts.toList ρ k
 | _ => False
theorem CallD.of_fn {E : Env} {f : Nat} {args args' : List SV} {res : SV} {h : List HB} {k : SV → Prop} (hf : FnC E.P f args' res) (h1 : args.map (pureS h) = args') (h2 : args'.all freeS = true) (h3 : res.all.all isD = true) (hk : k res) : CallD E f args h k ⟨⟩ :=
 ⟨.inl ⟨args', res, hf, .inl h1, h2, h3, hk⟩⟩
theorem CallD.of_own {E : Env} {f : Nat} {args args' : List SV} {res : SV} {h : List HB} {k : SV → Prop} (hf : FnC E.P f args' res) (h1 : args.map (pureOS h) = args') (h2 : args'.all freeS = true) (h3 : res.all.all isD = true) (h4 : res.all.all isWS = true) (hk : k res) : CallD E f args h k ⟨⟩ :=
 ⟨.inl ⟨args', res, hf, .inr ⟨h1, h4⟩, h2, h3, hk⟩⟩
theorem CallD.of_lend {E : Env} {f ty sz : Nat} {rows : List (List D)} {args args' : List SV} {h : List HB} {k : SV → Prop} (hf : FnC E.P f args' (.o (.w ty sz rows))) (h1 : args.map (pureOS h) = args') (h2 : args'.all freeS = true) (h3 : flatB rows = true) (hk : k (.o (.d (.sl rows)))) : CallD E f args h k ⟨⟩ :=
 ⟨.inr ⟨args', ty, sz, rows, hf, h1, h2, h3, hk⟩⟩
theorem adA_isD : ∀ (n : Nat) (cs : List At), cs.all isD = true → adA n cs = cs ∧ adH cs = []
 | _, [], _ => ⟨rfl, rfl⟩
 | n, c :: cs, h => by
  simp only [List.all_cons, Bool.and_eq_true] at h
  obtain ⟨e1, e2⟩ := adA_isD n cs h.2
  cases c <;> simp_all [isD, adA, adH]
theorem adT_isD : ∀ (n : Nat) (l : List (Bool × List At)), (l.flatMap (·.2)).all isD = true → adT n l = l
 | _, [], _ => rfl
 | n, (b, cs) :: l, h => by
  simp only [List.flatMap_cons, List.all_append, Bool.and_eq_true] at h
  obtain ⟨e1, e2⟩ := adA_isD n cs h.1
  simp only [adT, e1, e2, List.length_nil, Nat.add_zero, adT_isD n l h.2]
theorem adS_isD (n : Nat) (s : SV) (h : s.all.all isD = true) : adS n s = s ∧ adH s.all = [] := by
 refine ⟨?_, (adA_isD n s.all h).2⟩
 cases s with
 | o a =>
  have := (adA_isD n [a] h).1
  cases a <;> simp_all [SV.all, isD, adS, adA]
 | g cs => simp only [adS, (adA_isD n cs h).1]
 | t l => simp only [adS, adT_isD n l h]
section
variable {E : Env}
theorem vcD_vcOp {op : Op} {st : St} {k : SV → Prop} (h : vcD E op (ev st) st.h k) : vcOp E op st fun st' s => st' = st ∧ k s := by
 unfold vcD at h
 split at h
 ·exact ⟨rfl, h⟩
 ·exact ⟨rfl, h⟩
 ·simp only [vcOp]
  unfold vcPick at h ⊢
  split at h
  ·exact ⟨fun hb => ⟨rfl, h.1 hb⟩, fun hb => ⟨rfl, h.2 hb⟩⟩
  ·exact h.elim
 ·simp only [vcOp]
  unfold vcLoad at h ⊢
  (repeat' split at h) <;> simp_all
 ·simp only [vcOp]
  unfold vcFieldAddr at h ⊢
  (repeat' split at h) <;> simp_all
 ·simp only [vcOp]
  unfold vcField at h ⊢
  (repeat' split at h) <;> simp_all
 ·simp only [vcOp]
  unfold vcIndexAddr at h ⊢
  obtain ⟨h1, h2, h⟩ := h
  refine ⟨h1, h2, ?_⟩
  (repeat' split at h) <;> simp_all
  all_goals
   obtain ⟨_, _, rfl, h4⟩ := h
   exact h4
 ·simp only [vcOp]
  unfold vcIndex at h ⊢
  (repeat' split at h) <;> simp_all
 ·rename_i op t x y _
  simp only [vcOp]
  have hne : ∀ {y' : SV}, vcBinN E op t (ev st x) y' ⟨[], st.h⟩ (fun _ s => k s) → y' ≠ .o .z := fun h e => by
   subst e
   unfold vcBinN at h
   split at h <;> first | (rename_i e1 e2; cases e2) | exact h
  unfold vcBin
  split
  ·rename_i e
   exact (hne h e).elim
  unfold vcBinN at h ⊢
  split at h
  ·rename_i e1 e2
   refine ⟨h.1, ?_⟩
   have := h.2
   unfold binI at this ⊢
   cases op <;> first | exact ⟨this.1, rfl, this.2⟩ | exact this.elim
  ·rename_i e1 e2
   unfold binSt at h ⊢
   cases op <;> first | exact ⟨h.1, rfl, h.2⟩ | exact h.elim
  ·rename_i e1 e2
   refine ⟨h.1, ?_⟩
   have := h.2
   unfold binB at this ⊢
   cases op <;> first | exact ⟨this.1, rfl, this.2⟩ | exact this.elim
  ·rename_i e1 e2
   refine ⟨h.1, h.2.1, h.2.2.1, ?_⟩
   have := h.2.2.2
   split at this <;> first | exact ⟨rfl, this⟩ | exact this.elim
  ·exact h.elim
 ·simp only [vcOp]
  unfold vcUn at h ⊢
  (repeat' split at h) <;> simp_all
 ·simp only [vcOp]
  unfold vcConv at h ⊢
  (repeat' split at h) <;> simp_all
 ·simp only [vcOp]
  unfold vcExtract at h ⊢
  (repeat' split at h) <;> simp_all
 ·rename_i c
  split at h
  ·rename_i f hc
   simp only [vcOp, vcCall, hc]
   split at h
   ·rename_i fn caps e
    obtain ⟨⟨args', res, c1, c2, c3, c4, c5⟩ | ⟨args', ty, sz, rows, c1, c2, c3, c4, c5⟩⟩ := h
    case inr =>
     rw [e]
     exact ⟨CallS.lendD c1 c2 c3 c4 ⟨rfl, c5⟩⟩
    rw [e]
    obtain ⟨e1, e2⟩ := adS_isD st.h.length res c4
    rcases c2 with c2 | ⟨c2, c6⟩
    ·refine ⟨CallS.of_fn c1 c2 c3 ?_⟩
     rw [e1, e2, List.append_nil]
     exact ⟨rfl, c5⟩
    ·refine ⟨CallS.lend c1 c2 c3 c6 ?_⟩
     have e3 : adG (fun _ => none) 0 res.all = [] := List.eq_nil_of_length_eq_zero (by rw [adG_len, e2]; rfl)
     rw [e1, e3, List.append_nil]
     exact ⟨rfl, c5⟩
   ·exact h.elim
  ·rename_i hc
   simp only [vcOp, vcCall, hc]
   split at h
   ·rename_i x t e1 e2
    rw [e1, e2]
    unfold vcLen at h ⊢
    (repeat' split at h) <;> simp_all
   ·exact h.elim
  ·rename_i hc
   simp only [vcOp, vcCall, hc]
   split at h
   ·rename_i x y e1
    rw [e1]
    unfold vcMax at h ⊢
    (repeat' split at h) <;> simp_all
   ·exact h.elim
  ·exact h.elim
 ·rename_i t x lo hi
  unfold vcDSlice at h
  split at h
  ·rename_i s e
   have hv : vcSlice E t (ev st x) lo hi none st (fun st' s => st' = st ∧ k s) := by
    rw [e]
    unfold vcSlice
    simp only [← bndR_ev]
    split at h
    ·rename_i l hh e1 e2
     simp only [e1, e2]
     exact ⟨h.1, h.2.1, h.2.2.1, h.2.2.2.1, trivial, h.2.2.2.2⟩
    ·exact h.elim
   simp only [vcOp, e] at hv ⊢
   exact hv
  ·rename_i rows e
   have hv : vcSlice E t (ev st x) lo hi none st (fun st' s => st' = st ∧ k s) := by
    rw [e]
    unfold vcSlice
    simp only [← bndR_ev]
    split at h
    ·rename_i l hh e1 e2
     simp only [e1, e2]
     exact ⟨h.1, h.2.1, h.2.2.1, h.2.2.2.1, h.2.2.2.2.1, h.2.2.2.2.2.1, trivial, h.2.2.2.2.2.2⟩
    ·exact h.elim
   simp only [vcOp, e] at hv ⊢
   exact hv
  ·rename_i id e
   split at h
   ·rename_i rows lin en
    have hv : vcSliceS E t id lo hi st (fun st' s => st' = st ∧ k s) := by
     unfold vcSliceS rowsOf
     simp only [en, ← bndR_ev]
     split at h
     ·rename_i l hh e1 e2
      simp only [e1, e2]
      refine ⟨h.1, h.2.1, h.2.2.1, h.2.2.2.1, h.2.2.2.2.1, h.2.2.2.2.2.1, ?_, h.2.2.2.2.2.2⟩
      simp only [frzH, en]
     ·exact h.elim
    simp only [vcOp, e]
    exact hv
   ·exact h.elim
  ·exact h.elim
 ·rename_i t parts
  unfold vcDBuild at h
  simp only [vcOp]
  unfold vcBuild
  rw [buildR_ev] at h
  split at h
  ·rename_i cs e
   rw [e]
   exact ⟨h.1, h.2.1, rfl, h.2.2⟩
  ·exact h.elim
 ·exact h.elim
theorem bnot {c b : Bool} (h : ¬ c = b) : c = !b := by revert h; cases c <;> cases b <;> simp
theorem bnot2 {c b : Bool} (h : c = b) (k : c = !b) : False := by subst h; cases c <;> simp at k
theorem vcD_det {op : Op} {ρ : Operand → SV} {hh : List HB} {k : SV → Prop} (h : vcD E op ρ hh k) : ∃ s, k s ∧ ∀ k' : SV → Prop, k' s → vcD E op ρ hh k' := by
 unfold vcD at h ⊢
 split at h
 ·exact ⟨_, h, fun k' h => h⟩
 ·exact ⟨_, h, fun k' h => h⟩
 ·unfold vcPick at h ⊢
  split at h
  ·rename_i b e
   cases b with
   | true => exact ⟨_, h.1 rfl, fun k' hk => by simp [hk]⟩
   | false => exact ⟨_, h.2 rfl, fun k' hk => by simp [hk]⟩
  ·exact h.elim
 ·unfold vcLoad at h ⊢
  (repeat' split at h) <;> first | exact h.elim | exact ⟨_, h.2, fun k' hk => ⟨h.1, hk⟩⟩ | exact ⟨_, h.2.2.2, fun k' hk => ⟨h.1, h.2.1, h.2.2.1, hk⟩⟩
 ·unfold vcFieldAddr at h ⊢
  split at h
  ·obtain ⟨h1, h2, h⟩ := h
   split at h <;> first | exact h.elim | exact ⟨_, h, fun k' hk => ⟨h1, h2, hk⟩⟩
  ·exact h.elim
 ·unfold vcField at h ⊢
  (repeat' split at h) <;> first | exact h.elim | exact ⟨_, h.2.2, fun k' hk => ⟨h.1, h.2.1, hk⟩⟩
 ·unfold vcIndexAddr at h ⊢
  obtain ⟨h1, h2, h⟩ := h
  (repeat' split at h) <;> first | exact h.elim | exact ⟨_, h.2.2.2, fun k' hk => ⟨h1, h2, h.1, h.2.1, h.2.2.1, hk⟩⟩
 ·unfold vcIndex at h ⊢
  (repeat' split at h) <;> first | exact h.elim | exact ⟨_, h.2.2.2, fun k' hk => ⟨h.1, h.2.1, h.2.2.1, hk⟩⟩
 ·rename_i op t x y _
  unfold vcBinN at h ⊢
  split at h
  ·obtain ⟨h1, h⟩ := h
   unfold binI at h ⊢
   cases op <;> first | exact h.elim | exact ⟨_, h.2, fun k' hk => ⟨h1, h.1, hk⟩⟩
  ·unfold binSt at h ⊢
   cases op <;> first | exact h.elim | exact ⟨_, h.2, fun k' hk => ⟨h.1, hk⟩⟩
  ·obtain ⟨h1, h⟩ := h
   unfold binB at h ⊢
   cases op <;> first | exact h.elim | exact ⟨_, h.2, fun k' hk => ⟨h1, h.1, hk⟩⟩
  ·obtain ⟨h1, h2, h3, h⟩ := h
   cases op <;> first | exact h.elim | exact ⟨_, h, fun k' hk => ⟨h1, h2, h3, hk⟩⟩
  ·exact h.elim
 ·unfold vcUn at h ⊢
  (repeat' split at h) <;> first | exact h.elim | exact ⟨_, h, fun k' hk => hk⟩ | exact ⟨_, h.2, fun k' hk => ⟨h.1, hk⟩⟩
 ·unfold vcConv at h ⊢
  (repeat' split at h) <;> first | exact h.elim | exact ⟨_, h.2.2.2, fun k' hk => ⟨h.1, h.2.1, h.2.2.1, hk⟩⟩
 ·unfold vcExtract at h ⊢
  split at h
  ·split at h
   ·exact ⟨_, h, fun k' hk => hk⟩
   ·exact h.elim
  ·exact h.elim
 ·rename_i c
  split at h
  ·rename_i f hc
   split at h
   ·obtain ⟨⟨args', res, c1, c2, c3, c4, c5⟩ | ⟨args', ty, sz, rows, c1, c2, c3, c4, c5⟩⟩ := h
    ·exact ⟨res, c5, fun k' hk => ⟨.inl ⟨args', res, c1, c2, c3, c4, hk⟩⟩⟩
    ·exact ⟨_, c5, fun k' hk => ⟨.inr ⟨args', ty, sz, rows, c1, c2, c3, c4, hk⟩⟩⟩
   ·exact h.elim
  ·rename_i hc
   split at h
   ·unfold vcLen at h ⊢
    (repeat' split at h) <;> first | exact h.elim | exact h.2.elim | exact ⟨_, h.2, fun k' hk => ⟨h.1, hk⟩⟩
   ·exact h.elim
  ·rename_i hc
   split at h
   ·unfold vcMax at h ⊢
    (repeat' split at h) <;> first | exact h.elim | exact ⟨_, h, fun k' hk => hk⟩
   ·exact h.elim
  ·exact h.elim
 ·unfold vcDSlice at h ⊢
  split at h
  ·split at h
   ·exact ⟨_, h.2.2.2.2, fun k' hk => ⟨h.1, h.2.1, h.2.2.1, h.2.2.2.1, hk⟩⟩
   ·exact h.elim
  ·split at h
   ·exact ⟨_, h.2.2.2.2.2.2, fun k' hk => ⟨h.1, h.2.1, h.2.2.1, h.2.2.2.1, h.2.2.2.2.1, h.2.2.2.2.2.1, hk⟩⟩
   ·exact h.elim
  ·split at h
   ·split at h
    ·exact ⟨_, h.2.2.2.2.2.2, fun k' hk => ⟨h.1, h.2.1, h.2.2.1, h.2.2.2.1, h.2.2.2.2.1, h.2.2.2.2.2.1, hk⟩⟩
    ·exact h.elim
   ·exact h.elim
  ·exact h.elim
 ·unfold vcDBuild at h ⊢
  split at h
  ·exact ⟨_, h.2.2, fun k' hk => ⟨h.1, h.2.1, hk⟩⟩
  ·exact h.elim
 ·exact h.elim
theorem vcD_congr {op : Op} {ρ ρ' : Operand → SV} {hh : List HB} {k : SV → Prop} (he : ∀ x ∈ op.operands, ρ x = ρ' x) (h : vcD E op ρ hh k) : vcD E op ρ' hh k := by
 unfold vcD at h ⊢
 split at h <;> simp only [Op.operands] at he
 case h_3 c x y =>
  have e1 : ρ c = ρ' c := he c (by simp)
  have e2 : ρ x = ρ' x := he x (by simp)
  have e3 : ρ y = ρ' y := he y (by simp)
  rw [e1, e2, e3] at h
  exact h
 case h_13 c =>
  have hargs : c.args.toList.map ρ = c.args.toList.map ρ' := List.map_congr_left fun x hx => he x (by simp only [Call.operands, Array.mem_append]; exact .inr (by simpa using hx))
  split at h
  ·rename_i f hc
   have hf : ρ f = ρ' f := he f (by simp [Call.operands, hc])
   rwa [hf, hargs] at h
  ·rename_i hc
   split at h
   ·rename_i x t e1 e2
    have hx : ρ x = ρ' x := he x (by
     have : x ∈ c.args := by rw [← Array.mem_toList_iff, e1]; simp
     simp [Call.operands, this])
    rwa [hx] at h
   ·exact h.elim
  ·rename_i hc
   split at h
   ·rename_i x y e1
    have hx : ρ x = ρ' x := he x (by
     have : x ∈ c.args := by rw [← Array.mem_toList_iff, e1]; simp
     simp [Call.operands, this])
    have hy : ρ y = ρ' y := he y (by
     have : y ∈ c.args := by rw [← Array.mem_toList_iff, e1]; simp
     simp [Call.operands, this])
    rwa [hx, hy] at h
   ·exact h.elim
  ·exact h.elim
 case h_14 t x lo hi =>
  have e1 : ρ x = ρ' x := he x (by simp)
  have e2 : ∀ n, bndR ρ n lo = bndR ρ' n lo := fun n => by
   cases lo with
   | none => rfl
   | some y => simp only [bndR]; rw [he y (by simp)]
  have e3 : ∀ n, bndR ρ n hi = bndR ρ' n hi := fun n => by
   cases hi with
   | none => rfl
   | some y => simp only [bndR]; rw [he y (by simp)]
  unfold vcDSlice at h ⊢
  simp only [e2, e3] at h
  rw [← e1]
  exact h
 case h_15 t parts =>
  unfold vcDBuild at h ⊢
  rw [← buildR_congr E (ρ := ρ) _ parts.toList _ fun p hp => he p.2 (by simp only [List.mem_toArray, List.mem_map]; exact ⟨p, hp, rfl⟩)]
  exact h
 all_goals first
  | exact h.elim
  | (simp only [List.mem_toArray, List.mem_cons, List.not_mem_nil, or_false, forall_eq_or_imp, forall_eq] at he; simp_all)
def sop (E : Env) (all : List Oper) (o : Oper) (st : St) (K : St → Prop) : Prop :=
 match o.guard with
 | none => vcD E o.op (ev st) st.h fun s => K (st.put o.dst s)
 | some (j, b) => vcGuard (dstOf all j st) b (vcD E o.op (ev st) st.h fun s => K (st.put o.dst s)) (K (st.put o.dst (.t []))) ⟨⟩ ⟨⟩
def vcDs (E : Env) (all : List Oper) : List Oper → St → (St → Prop) → Prop
 | [], st, K => K st
 | o :: r, st, K => sop E all o st fun st' => vcDs E all r st' K
theorem sop_det {all : List Oper} {o : Oper} {st : St} {K : St → Prop} (h : sop E all o st K) : ∃ s, K (st.put o.dst s) ∧ ∀ K' : St → Prop, K' (st.put o.dst s) → sop E all o st K' := by
 unfold sop at h ⊢
 split at h
 ·rename_i hg
  obtain ⟨s, h1, h2⟩ := vcD_det h
  exact ⟨s, h1, fun K' hk => h2 (fun s => K' (st.put o.dst s)) hk⟩
 ·rename_i j b hg
  unfold vcGuard at h ⊢
  split at h
  ·rename_i c e
   by_cases hcb : c = b
   ·obtain ⟨s, h1, h2⟩ := vcD_det (h.1 hcb)
    exact ⟨s, h1, fun K' hk => ⟨fun _ => h2 (fun s => K' (st.put o.dst s)) hk, fun hn => (bnot2 hcb hn).elim⟩⟩
   ·exact ⟨_, h.2 (bnot hcb), fun K' hk => ⟨fun e => (hcb e).elim, fun _ => hk⟩⟩
  ·exact ⟨_, h, fun K' hk => hk⟩
  ·exact h.elim
theorem ev_put {st : St} {d : Option Nat} {s : SV} {x : Operand} (h : ∀ e, d = some e → x ≠ .tmp e) : ev (st.put d s) x = ev st x := by
 cases d with
 | none => rfl
 | some d =>
  cases x with
  | tmp t =>
   have hne : d ≠ t := fun e => h d rfl (e ▸ rfl)
   simp only [ev, St.put, nth_eq, setN_eq, List.getD_eq_getElem?_getD, List.getElem?_set, if_neg hne]
  | _ => rfl
theorem h_put (st : St) (d : Option Nat) (s : SV) : (st.put d s).h = st.h := by cases d <;> rfl
theorem put_put (st : St) {x y : Option Nat} (v u : SV) (h : ∀ d, x = some d → y ≠ some d) : (st.put x v).put y u = (st.put y u).put x v := by
 cases x with
 | none => rfl
 | some d => cases y with
  | none => rfl
  | some e =>
   have hne : d ≠ e := fun he => h d rfl (he ▸ rfl)
   simp only [St.put, setN_eq]
   rw [List.set_comm _ _ hne]
theorem dstOf_put {all : List Oper} {o : Oper} {j : Nat} {b : Bool} (hg : o.guard = some (j, b)) {st : St} {d : Option Nat} {s : SV} (h : ∀ e, d = some e → e ∉ o.looksAt all.toArray) : dstOf all j (st.put d s) = dstOf all j st := by
 unfold dstOf
 rw [nthO_eq]
 cases ho : all[j]? with
 | none => rfl
 | some o' =>
  simp only []
  cases hd : o'.dst with
  | none => rfl
  | some d' =>
   simp only []
   have : ev (st.put d s) (.tmp d') = ev st (.tmp d') := ev_put fun e he hx => by
    cases hx
    exact h d' he (by simp [Oper.looksAt, hg, ho, hd])
   exact this
theorem sop_put {all : List Oper} {oi oj : Oper} {v : SV} {st : St} (hap : oi.apart all.toArray oj = true) {K : St → Prop} (h : sop E all oj (st.put oi.dst v) K) :
    ∃ u, K ((st.put oj.dst u).put oi.dst v) ∧ ∀ K' : St → Prop, K' (st.put oj.dst u) → sop E all oj st K' := by
 obtain ⟨h1, h2, h3⟩ := Oper.apart_spec hap
 have he : ∀ x ∈ oj.op.operands, ev (st.put oi.dst v) x = ev st x := fun x hx => ev_put fun e he hxe => by
  subst hxe
  exact h1 e he (List.mem_append_left _ (List.mem_filterMap.2 ⟨.tmp e, by simpa using hx, rfl⟩))
 have step : vcD E oj.op (ev (st.put oi.dst v)) (st.put oi.dst v).h (fun s => K ((st.put oi.dst v).put oj.dst s)) → ∃ u, K ((st.put oj.dst u).put oi.dst v) ∧ ∀ K' : St → Prop, K' (st.put oj.dst u) → vcD E oj.op (ev st) st.h fun s => K' (st.put oj.dst s) := fun h => by
  obtain ⟨u, k1, k2⟩ := vcD_det h
  refine ⟨u, by rw [← put_put st v u h2]; exact k1, fun K' hk => ?_⟩
  have := k2 (fun s => K' (st.put oj.dst s)) hk
  rw [h_put] at this
  exact vcD_congr he this
 unfold sop at h ⊢
 split at h
 ·rename_i hg
  exact step h
 ·rename_i j b hg
  rw [dstOf_put hg h1] at h
  unfold vcGuard at h ⊢
  split at h
  ·rename_i c e
   by_cases hcb : c = b
   ·obtain ⟨u, k1, k2⟩ := step (h.1 hcb)
    exact ⟨u, k1, fun K' hk => ⟨fun _ => k2 K' hk, fun hn => (bnot2 hcb hn).elim⟩⟩
   ·exact ⟨.t [], by rw [← put_put st v _ h2]; exact h.2 (bnot hcb), fun K' hk => ⟨fun e => (hcb e).elim, fun _ => hk⟩⟩
  ·exact ⟨.t [], by rw [← put_put st v _ h2]; exact h, fun K' hk => hk⟩
  ·exact h.elim
def YieldsS (E : Env) (all : List Oper) (o : Oper) (s : SV) (st : St) : Prop := ∀ K : St → Prop, K (st.put o.dst s) → sop E all o st K
theorem YieldsS.keep {all : List Oper} {oi oj : Oper} {v u : SV} {st : St} (hap : oi.apart all.toArray oj = true) (h : YieldsS E all oi v st) : YieldsS E all oi v (st.put oj.dst u) := by
 obtain ⟨h1, h2, h3⟩ := Oper.apart_spec hap
 have he : ∀ x ∈ oi.op.operands, ev st x = ev (st.put oj.dst u) x := fun x hx => (ev_put fun e he hxe => by
  subst hxe
  exact h3 e he (List.mem_append_left _ (List.mem_filterMap.2 ⟨.tmp e, by simpa using hx, rfl⟩))).symm
 intro K hk
 have h0 := h (fun s => K (s.put oj.dst u)) (by rw [put_put st v u h2]; exact hk)
 have step : (vcD E oi.op (ev st) st.h fun s => K ((st.put oi.dst s).put oj.dst u)) → vcD E oi.op (ev (st.put oj.dst u)) (st.put oj.dst u).h fun s => K ((st.put oj.dst u).put oi.dst s) := fun h => by
  rw [h_put]
  refine vcD_congr he ?_
  have e : (fun s => K ((st.put oj.dst u).put oi.dst s)) = fun s => K ((st.put oi.dst s).put oj.dst u) := funext fun s => by rw [put_put st s u h2]
  rw [e]; exact h
 unfold sop at h0 ⊢
 split at h0
 ·exact step h0
 ·rename_i j b hg
  rw [dstOf_put hg h3]
  unfold vcGuard at h0 ⊢
  split at h0
  ·rename_i c e
   exact ⟨fun hc => step (h0.1 hc), fun hc => by rw [← put_put st _ u h2]; exact h0.2 hc⟩
  ·rw [← put_put st _ u h2]; exact h0
  ·exact h0.elim
def wpAnyT (E : Env) (md : Region.Mode) (all : List Oper) (K : St → Prop) : Nat → Array Bool → St → Prop
 | 0, listed, st => Region.ready md all.toArray listed = [] ∧ K st
 | fuel + 1, listed, st =>
  (Region.ready md all.toArray listed = [] → K st) ∧
  ∀ i ∈ Region.ready md all.toArray listed, ∀ o, all.toArray[i]? = some o → sop E all o st (wpAnyT E md all K fuel (listed.setIfInBounds i true))
theorem wpAnyT_first {md : Region.Mode} {all : List Oper} {K : St → Prop} {i : Nat} {oi : Oper} {v : SV} (hi : all.toArray[i]? = some oi) :
    ∀ (fuel : Nat) (listed : Array Bool) (st : St),
     (∀ j oj, all.toArray[j]? = some oj → j ≠ i → listed.getD j true = false → (∀ e ∈ oj.after, Region.binds md e = true → e.on ≠ i) → oi.apart all.toArray oj = true) →
     i ∈ Region.ready md all.toArray listed → YieldsS E all oi v st →
     wpAnyT E md all K fuel (listed.setIfInBounds i true) (st.put oi.dst v) → wpAnyT E md all K (fuel + 1) listed st := by
 intro fuel
 induction fuel with
 | zero =>
  intro listed st _ hr hy H
  refine ⟨fun h => (by rw [h] at hr; cases hr), fun j hj o ho => ?_⟩
  by_cases hji : j = i
  ·subst hji; rw [hi] at ho; cases ho; exact hy _ H
  ·have := ready_mono hj hji
   rw [H.1] at this
   cases this
 | succ fuel ih =>
  intro listed st hfree hr hy H
  refine ⟨fun h => (by rw [h] at hr; cases hr), fun j hj oj hoj => ?_⟩
  by_cases hji : j = i
  ·subst hji; rw [hi] at hoj; cases hoj; exact hy _ H
  ·have h1 := H.2 j (ready_mono hj hji) oj hoj
   obtain ⟨hjun, oj', hoj', hall⟩ := mem_ready.1 hj
   rw [hoj] at hoj'; cases hoj'
   have hnot : ∀ e ∈ oj.after, Region.binds md e = true → e.on ≠ i := fun e he hb heq => by
    have h1 := hall e he hb
    have h0 := (mem_ready.1 hr).1
    rw [heq] at h1
    rcases Nat.lt_or_ge i listed.size with h' | h'
    ·simp [h'] at h0 h1; rw [h0] at h1; cases h1
    ·simp [Array.getElem?_eq_none h'] at h1
   have hap := hfree j oj hoj hji hjun hnot
   obtain ⟨u, k1, k2⟩ := sop_put hap h1
   have hfree' : ∀ k ok, all.toArray[k]? = some ok → k ≠ i → (listed.setIfInBounds j true).getD k true = false →
       (∀ e ∈ ok.after, Region.binds md e = true → e.on ≠ i) → oi.apart all.toArray ok = true := fun k ok hk hki hun hno => by
    refine hfree k ok hk hki ?_ hno
    by_cases hjk : j = k
    ·subst hjk; exact hjun
    ·rw [getD_set_ne true hjk] at hun; exact hun
   refine k2 _ (ih (listed.setIfInBounds j true) _ hfree' (ready_mono hr (Ne.symm hji)) (hy.keep hap) ?_)
   rw [Array.setIfInBounds_comm _ _ hji]
   exact k1
theorem wpAnyT_lex {md : Region.Mode} {all : List Oper} {K : St → Prop} : ∀ (l : List Oper) (k : Nat) (listed : Array Bool) (st : St), (∀ j : Nat, l[j]? = all.toArray[k + j]?) →
    Region.lexFrom md all.toArray l.length k listed = true → vcDs E all l st K → wpAnyT E md all K l.length listed st
 | [], _, _, _, _, hB, h => ⟨by simpa [Region.lexFrom] using hB, h⟩
 | o :: l, k, listed, st, hl, hB, h => by
  have h0 : all.toArray[k]? = some o := by simpa using (hl 0).symm
  simp only [List.length_cons, Region.lexFrom, Bool.and_eq_true] at hB
  obtain ⟨⟨hr, hf⟩, hB'⟩ := hB
  obtain ⟨s, h1, h2⟩ := sop_det h
  exact wpAnyT_first h0 l.length listed st (Region.free_spec h0 hf) (by simpa using hr) h2
   (wpAnyT_lex l (k + 1) _ _ (fun j => by have := hl (j + 1); simpa [Nat.add_assoc, Nat.add_comm 1 j] using this) hB' h1)
theorem sop_ok (hT : TyOK E.P E.T) (hE : ∀ t, E.eqk t ≠ [] → EqT E.P t (E.eqk t)) {all : List Oper} {o : Oper} {K : St → Prop} {K' : Act → World → Prop} {Q : Exit → Act → World → Prop} {i : Nat} (hi : all.toArray[i]? = some o)
    {st : St} {g : List Gh} {V : View} {a : Act} {w : World} (hr : Rel E.C g V st a w) (hK : ∀ g V st a w, Rel E.C g V st a w → K st → K' a w) (h : sop E all o st K) : wpOp E.P all.toArray Q i K' a w := by
 unfold wpOp
 simp only [hi]
 have hyes : (vcD E o.op (ev st) st.h fun s => K (st.put o.dst s)) → o.wp E.P a w K' Q := fun hk =>
  vcOp_ok hT hE (vcD_vcOp hk) hr fun g' V' st' w' s y hr' hs hk => by
   obtain ⟨rfl, hk⟩ := hk
   exact hK _ _ _ _ _ (hr'.put o.dst hs) hk
 have hno : K (st.put o.dst (.t [])) → K' (a.put o.dst undef) w := fun hk => hK _ _ _ _ _ (hr.put o.dst (undef_ok g V)) hk
 unfold sop at h
 split at h
 ·rename_i hgd
  simp only [Region.wanted, hgd, if_true]
  exact .inl (hyes h)
 ·rename_i j b hgd
  unfold vcGuard at h
  split at h
  ·rename_i c e
   have hy := (yielded_ok hr.sl all j c).1 e
   simp only [Region.wanted, hgd, hy]
   by_cases hcb : c = b
   ·subst hcb
    simp only [beq_self_eq_true, if_true]
    exact .inl (hyes (h.1 rfl))
   ·have hne : (some c == some b) = false := by simpa using hcb
    rw [hne]
    simp only [Bool.false_eq_true, if_false]
    exact hno (h.2 (bnot hcb))
  ·rename_i e
   have hy := (yielded_ok hr.sl all j true).2 e
   simp only [Region.wanted, hgd, hy]
   have hne : ((none : Option Bool) == some b) = false := rfl
   rw [hne]
   simp only [Bool.false_eq_true, if_false]
   exact hno h
  ·exact h.elim
theorem wpAny_of_T (hT : TyOK E.P E.T) (hE : ∀ t, E.eqk t ≠ [] → EqT E.P t (E.eqk t)) {md : Region.Mode} {all : List Oper} {K : St → Prop} {Q : Exit → Act → World → Prop} (hQ : ∀ g V st a w, Rel E.C g V st a w → K st → Q .normal a w) :
    ∀ (fuel : Nat) (listed : Array Bool) (st : St) (g : List Gh) (V : View) (a : Act) (w : World), Rel E.C g V st a w → wpAnyT E md all K fuel listed st → wpAny E.P md all.toArray Q fuel listed a w
 | 0, _, _, _, _, _, _, hr, h => ⟨h.1, hQ _ _ _ _ _ hr h.2⟩
 | fuel + 1, listed, st, g, V, a, w, hr, h => ⟨fun h0 => hQ _ _ _ _ _ hr (h.1 h0), fun i hi => by
     obtain ⟨_, o, ho, _⟩ := mem_ready.1 hi
     exact sop_ok hT hE ho hr (fun g V st a w hr h => wpAny_of_T hT hE hQ fuel _ st g V a w hr h) (h.2 i hi o ho)⟩
theorem Rel.drawn {C : Ctx} {g : List Gh} {V : View} {st : St} {a : Act} {w : World} (h : Rel C g V st a w) : Rel C g V st a { w with drawn := w.drawn + 1 } :=
 ⟨h.sl, ⟨h.hp.1, h.hp.2, h.hp.3, h.hp.4, h.hp.5, h.hp.6⟩, h.mod, ⟨h.fr.os, h.fr.tape, h.fr.output, h.fr.size, h.fr.block⟩, h.vw.move fun _ _ _ => rfl⟩
theorem WP_draw (hT : TyOK E.P E.T) (hE : ∀ t, E.eqk t ≠ [] → EqT E.P t (E.eqk t)) (hm : E.P.follows .mixedOrders = true) {id : Nat} {ops : List Oper} {F : Ex → St → Prop} {st : St} (hB : Region.lexB .any ops.toArray = true) (h : vcDs E ops ops st (F .normal)) :
    WP E.P E.C (.region id ops.toArray true) F st := fun g V a w hr => by
 simp only [Region.lexB, Bool.and_eq_true] at hB
 refine wp_region_any hm ?_
 have := wpAnyT_lex (E := E) (md := .any) (K := F .normal) ops 0 (Array.replicate ops.length false) st (by simp) (by simpa using hB.2) h
 exact wpAny_of_T hT hE (fun g V st _ _ hr h => ⟨g, V, st, hr, h⟩) _ _ st g V a _ hr.drawn (by simpa using this)
end
end Go.Sx
end
section
set_option linter.all false
namespace Go.Sx
open Go Go.RowKit
def idsS : List SV → List Nat
 | [] => []
 | s :: r => idsL s.all ++ idsS r
theorem CallS.frz {E : Env} {f : Nat} {args args' : List SV} {res : SV} {st : St} {K : St → SV → Prop} (h : FnC E.P f args' res) (he : args.map (pureS (frzH st.h (idsS args))) = args') (hfree : args'.all freeS = true)
    (k : K ⟨st.t, frzH st.h (idsS args) ++ adH res.all⟩ (adS (frzH st.h (idsS args)).length res)) : CallS E f args st K := by
 refine ⟨h.enters, fun g V a w vs hr hlen hargs => ?_⟩
 obtain ⟨g', V', hr', hg, hv, _⟩ := frzH_ok (idsS args) hr
 have := CallS.of_fn (E := E) (st := ⟨st.t, frzH st.h (idsS args)⟩) (K := K) h he hfree k
 exact this.2 g' V' a w vs hr' hlen fun i s y h1 h2 => (hargs i s y h1 h2).mono hg hv
theorem rL_of_cL {V : View} {w : World} {g : List Gh} {cs : List At} {l : List Value} (h : cL g V cs l) (hd : cs.all isD = true) : rL V w cs l [] := by
 refine ⟨List.replicate cs.length [], h.1, by simp, by simp, fun k a y s h1 h2 h3 => ?_⟩
 have ha := List.all_eq_true.1 hd a (List.mem_of_getElem? h1)
 have hc := h.2 k a y h1 h2
 have hs : s = [] := by
  rw [List.getElem?_replicate] at h3
  split at h3
  ·cases h3; rfl
  ·cases h3
 subst hs
 cases a <;> simp [isD] at ha
 exact ⟨rfl, hc⟩
theorem cL.app {V : View} {g : List Gh} {cs cs' : List At} {l l' : List Value} (h : cL g V cs l) (h' : cL g V cs' l') : cL g V (cs ++ cs') (l ++ l') := by
 refine ⟨by simp [h.1, h'.1], fun k a y h1 h2 => ?_⟩
 rw [List.getElem?_append] at h1 h2
 rw [h.1] at h2
 split at h1
 ·rename_i hk; rw [if_pos hk] at h2; exact h.2 k a y h1 h2
 ·rename_i hk; rw [if_neg hk] at h2; exact h'.2 _ a y h1 h2
theorem tupL {V : View} {g : List Gh} : ∀ (cs : List (Bool × List At)) (ys : List Value), ys.length = cs.length → (∀ (k : Nat) (b : Bool) (c : List At) (v : Value), cs[k]? = some (b, c) → ys[k]? = some v → if b = true then ∃ m : List Value, v = .agg m.toArray ∧ cL g V c m else cL g V c [v]) →
    ∃ ls : List (List Value), ls.length = cs.length ∧ cL g V (cs.flatMap (·.2)) ls.flatten ∧ (∀ (k : Nat) (b : Bool) (c : List At) (m : List Value), cs[k]? = some (b, c) → ls[k]? = some m → m.length = c.length) ∧
     ∀ (k : Nat) (b : Bool) (c : List At) (m : List Value) (v : Value), cs[k]? = some (b, c) → ls[k]? = some m → ys[k]? = some v → if b then v = .agg m.toArray else m = [v]
 | [], _, _, _ => ⟨[], rfl, cL.nil g V, fun k b c m h => by simp at h, fun k b c m v h => by simp at h⟩
 | (b, c) :: cs, [], h, _ => by simp at h
 | (b, c) :: cs, v :: ys, h, hk => by
  obtain ⟨ls, e1, e2, e3, e4⟩ := tupL cs ys (by simpa using h) fun k b c v h1 h2 => hk (k + 1) b c v (by simpa using h1) (by simpa using h2)
  have h0 := hk 0 b c v rfl rfl
  obtain ⟨m, hm, hs⟩ : ∃ m : List Value, cL g V c m ∧ (if b then v = .agg m.toArray else m = [v]) := by
   cases b with
   | true => simp only [if_true] at h0; obtain ⟨m, q1, q2⟩ := h0; exact ⟨m, q2, q1⟩
   | false => simp only [Bool.false_eq_true, if_false] at h0; exact ⟨[v], h0, rfl⟩
  refine ⟨m :: ls, by simp [e1], by simpa using hm.app e2, fun k b' c' m' h1 h2 => ?_, fun k b' c' m' v' h1 h2 h3 => ?_⟩
  ·cases k with
   | zero => simp at h1 h2; obtain ⟨_, rfl⟩ := h1; subst h2; exact hm.1
   | succ k => exact e3 k b' c' m' (by simpa using h1) (by simpa using h2)
  ·cases k with
   | zero => simp at h1 h2 h3; obtain ⟨rfl, rfl⟩ := h1; subst h2 h3; exact hs
   | succ k => exact e4 k b' c' m' v' (by simpa using h1) (by simpa using h2) (by simpa using h3)
theorem FnC.pure {P : Program} {f : Nat} {args : List SV} {res res' : SV} (h : FnC P f args res) (ha : args.map (pureS []) = args) (hf : args.all freeS = true)
    (hp : pureS (frzH (adH res.all) (idsL (adS 0 res).all)) (adS 0 res) = res') (hd : res'.all.all isD = true) : FnC P f args res' := by
 refine ⟨h.enters, fun V w vs hm hc => ?_⟩
 have hr : Rel ⟨w, [], V⟩ [] V ⟨[], []⟩ ⟨#[], []⟩ w :=
  ⟨⟨rfl, fun i s y h1 _ => by simp at h1, rfl⟩, ⟨rfl, fun i b x h => by simp at h, fun i b x h => by simp at h, fun i j b b' x x' _ h => by simp at h, fun i b x h => by simp at h, fun i b x h => by simp at h⟩, hm,
   ⟨rfl, rfl, rfl, Nat.le_refl _, fun _ _ _ => rfl⟩, ⟨View.le.refl V, (fun b cs h1 h2 => by have h2' : V b = none := h2; rw [h1] at h2'; cases h2'), (fun b cs h1 h2 => by have h2' : V b = none := h2; rw [h1] at h2'; cases h2')⟩⟩
 have hcall := CallS.of_fn (E := ⟨P, fun _ => .bad, ⟨w, [], V⟩, fun _ => []⟩) (st := ⟨[], []⟩) (K := fun st s => st = ⟨[], adH res.all⟩ ∧ s = adS 0 res) h ha hf ⟨by simp, rfl⟩
 refine (hcall.2 [] V _ w vs hr hc.1 (fun i s y h1 h2 => hc.2 i s y h1 h2)).mono ?_
 rintro e w' ⟨y, g', V', st', s, rfl, hr', hs, rfl, rfl⟩
 obtain ⟨g2, V2, hr2, hg2, hv2, _⟩ := frzH_ok (idsL (adS 0 res).all) hr'
 have hp2 := pureS_ok hr2 (hs.mono hg2 hv2)
 rw [hp] at hp2
 refine ⟨y, rfl, ⟨V2, [], hr2.vw.le, hr2.mod, fun b cs h1 h2 => ?_, ?_, List.nodup_nil, fun b hb => by cases hb⟩, ⟨hr2.fr.os, hr2.fr.tape, hr2.fr.output, hr2.fr.size, fun k hk => hr2.fr.block k hk (by simp)⟩⟩
 ·refine ⟨?_, hr2.vw.unf b cs h1 h2⟩
  rcases hr2.vw.fresh b cs h1 h2 with h | h
  ·exact h
  ·cases h
 ·cases res' with
  | o x => exact ⟨[y], rfl, rL_of_cL (cL.cons hp2 (cL.nil g2 V2)) hd⟩
  | g cs =>
   obtain ⟨l, hl, hcl⟩ := hp2
   exact ⟨l, hl, rL_of_cL hcl hd⟩
  | t cs =>
   obtain ⟨ys, h1, h2, h3⟩ := hp2
   obtain ⟨ls, e1, e2, e3, e4⟩ := tupL cs ys h2 h3
   exact ⟨ls.flatten, ⟨ls, e1, rfl, e3, ys, h1, h2, e4⟩, rL_of_cL e2 hd⟩
theorem FnC.pu {P : Program} {f : Nat} {args : List SV} {res res' : SV} (h : FnC P f args res) (o : (args.map (pureS []) = args ∧ args.all freeS = true) ∧ pureS (frzH (adH res.all) (idsL (adS 0 res).all)) (adS 0 res) = res' ∧ res'.all.all isD = true) : FnC P f args res' := h.pure o.1.1 o.1.2 o.2.1 o.2.2
end Go.Sx
end
section
set_option linter.all false
namespace Go.Sx
open Go Go.RowKit
theorem CallS.lendF {E : Env} {f : Nat} {args args' : List SV} {res : SV} {st : St} {K : St → SV → Prop} (h : FnC E.P f args' res) (he : args.map (pureOS (frzH st.h (idsS args))) = args') (hfree : args'.all freeS = true) (hres : res.all.all isWS = true)
    (k : K ⟨st.t, frzH st.h (idsS args) ++ adG (fun _ => none) 0 res.all⟩ (adS (frzH st.h (idsS args)).length res)) : CallS E f args st K := by
 refine ⟨h.enters, fun g V a w vs hr hlen hargs => ?_⟩
 obtain ⟨g', V', hr', hg, hv, _⟩ := frzH_ok (idsS args) hr
 have := CallS.lend (E := E) (st := ⟨st.t, frzH st.h (idsS args)⟩) (K := K) h he hfree hres k
 exact this.2 g' V' a w vs hr' hlen fun i s y h1 h2 => (hargs i s y h1 h2).mono hg hv
structure Turned (X : List Nat) (w w' : World) : Prop where
 os : w'.os = w.os
 tape : w'.tape = w.tape
 output : w'.output = w.output
 size : w.heap.size ≤ w'.heap.size
 block : ∀ k, k < w.heap.size → k ∉ X → w'.heap[k]? = w.heap[k]?
def argV (b : Bool) (l : List Value) : Value := if b then .agg l.toArray else l.headD undef
structure FnM (P : Program) (f : Nat) (b : Bool) (cs outs : List At) (n res : Int) : Prop where
 enters : ∀ as w, (callFunc f as).run P w = .ok (.enter f as) w
 one : b = false → cs.length = 1
 calls : ∀ w l Ps, oL w cs l Ps → (trs Ps).Nodup → (∀ k ∈ trs Ps, k < w.heap.size) → Calls P f #[argV b l, .int .i64 n] w fun e w' => e = .returned (.int .i64 res) ∧ Turned (trs Ps) w w' ∧ oL w' outs l Ps
def adSb (b : Bool) (cs : List At) : SV := if b then .g (adA 0 cs) else match adA 0 cs with
 | [x] => .o x
 | _ => .o .u
def stM (tg : Nat → Option (Value × List Nat × List Value)) (b : Bool) (cs : List At) (n : Int) (nt : Nat) : St := ⟨[adSb b cs, oi n] ++ List.replicate (nt - 2) (.t []), adG tg 0 cs⟩
def preH : List HB → List HB → Prop
 | _, [] => True
 | x :: xs, y :: ys => x = y ∧ preH xs ys
 | [], _ :: _ => False
theorem preH_get : ∀ {h hs : List HB}, preH h hs → ∀ (i : Nat) (b : HB), hs[i]? = some b → h[i]? = some b
 | _, [], _, i, b, e => by simp at e
 | x :: xs, y :: ys, h, 0, b, e => by simp at e ⊢; rw [h.1, e]
 | x :: xs, y :: ys, h, i + 1, b, e => by simpa using preH_get h.2 i b (by simpa using e)
 | [], _ :: _, h, _, _, _ => h.elim
def retM (E : Env) (rs : List ResultVar) (res : Int) (hs : List HB) : Ex → St → Prop
 | .ret, st => RetOK E st rs (oi res) ∧ preH st.h hs
 | .normal, st => RetOK E st rs (oi res) ∧ preH st.h hs
 | .exit _, _ => False
def shp : List At → List At → Prop
 | [], [] => True
 | .d (.v x) :: a, .d (.v y) :: b => x = y ∧ shp a b
 | .w _ s _ :: a, .w _ s' _ :: b => s = s' ∧ shp a b
 | _, _ => False
def tags : List At → List Value → List (List Nat × List Value) → List (Value × List Nat × List Value)
 | .w _ _ _ :: cs, y :: l, p :: Ps => (y, p.1, p.2) :: tags cs l Ps
 | _ :: cs, _ :: l, _ :: Ps => tags cs l Ps
 | _, _, _ => []
theorem tagOK_tags : ∀ {cs : List At} {l : List Value} {Ps : List (List Nat × List Value)} (pre : List (Value × List Nat × List Value)), tagOK (fun j => (pre ++ tags cs l Ps)[j]?) pre.length cs l Ps
 | [], _, _, _ => by cases ‹List Value› <;> trivial
 | c :: cs, [], _, _ => by cases c <;> trivial
 | c :: cs, y :: l, [], _ => by cases c <;> trivial
 | c :: cs, y :: l, p :: Ps, pre => by
  have hw : ∀ t s r, c = .w t s r → tagOK (fun j => (pre ++ tags (c :: cs) (y :: l) (p :: Ps))[j]?) pre.length (c :: cs) (y :: l) (p :: Ps) := by
   rintro t s r rfl
   refine ⟨fun q e => ?_, ?_⟩
   ·have e : (pre ++ tags (At.w t s r :: cs) (y :: l) (p :: Ps))[pre.length]? = some q := e
    rw [List.getElem?_append_right (Nat.le_refl _)] at e
    simp [tags] at e
    exact e.symm
   ·have := tagOK_tags (cs := cs) (l := l) (Ps := Ps) (pre ++ [(y, p.1, p.2)])
    simpa [tags] using this
  cases c with
  | w t s r => exact hw t s r rfl
  | _ => exact tagOK_tags (cs := cs) (l := l) (Ps := Ps) pre
theorem outs_ok {C : Ctx} {g : List Gh} {V : View} {h : List HB} {w w0 : World} (hp : Hp C g V h w) : ∀ {cs outs : List At} {l : List Value} {Ps : List (List Nat × List Value)} (pre : List (Value × List Nat × List Value)), oL w0 cs l Ps → shp cs outs →
    (∀ (i : Nat) (b : HB), (adG (fun j => (pre ++ tags cs l Ps)[j]?) pre.length outs)[i]? = some b → h[pre.length + i]? = some b) → oL w outs l Ps
 | [], [], l, Ps, pre, ho, _, _ => ⟨ho.1, ho.2.1, fun k a y p e => by simp at e⟩
 | [], _ :: _, _, _, _, _, hs, _ => by simp [shp] at hs
 | c :: cs, [], l, Ps, _, _, hs, _ => by cases c with
  | d x => cases x <;> simp [shp] at hs
  | _ => simp [shp] at hs
 | c :: cs, o :: outs, [], _, _, ho, _, _ => by have := ho.1; simp at this
 | c :: cs, o :: outs, y :: l, [], _, ho, _, _ => by have := ho.2.1; simp at this
 | c :: cs, o :: outs, y :: l, p :: Ps, pre, ho, hs, hh => by
  have ho' : oL w0 cs l Ps := ⟨by have := ho.1; simpa using this, by have := ho.2.1; simpa using this, fun k a y p e1 e2 e3 => ho.2.2 (k + 1) a y p (by simpa using e1) (by simpa using e2) (by simpa using e3)⟩
  have hy := ho.2.2 0 c y p rfl rfl rfl
  have mk : oAt w o y p → oL w outs l Ps → oL w (o :: outs) (y :: l) (p :: Ps) := fun h1 h2 => ⟨by simp [h2.1], by simp [h2.2.1], fun k a' y' p' e1 e2 e3 => by
   cases k with
   | zero => simp at e1 e2 e3; subst e1; subst e2; subst e3; exact h1
   | succ k => exact h2.2.2 k a' y' p' (by simpa using e1) (by simpa using e2) (by simpa using e3)⟩
  cases c with
  | d x => cases x with
   | v x => cases o with
    | d z => cases z with
     | v z =>
      obtain ⟨rfl, hs'⟩ := hs
      exact mk hy (outs_ok hp pre ho' hs' (by simpa [tags, adG] using hh))
     | sl r => simp [shp] at hs
    | _ => simp [shp] at hs
   | sl r => simp [shp] at hs
  | w t s r => cases o with
   | w t' s' r' =>
    obtain ⟨rfl, hs'⟩ := hs
    have h0 := hh 0 (.own (some (y, p.1, p.2)) s r') (by
     simp only [adG, tags, List.getElem?_cons_zero]
     rw [List.getElem?_append_right (Nat.le_refl _)]
     simp)
    have hg : pre.length < g.length := by rw [hp.glen]; exact (List.getElem?_eq_some_iff.1 (by simpa using h0)).1
    obtain ⟨e1, e2⟩ := hp.hb pre.length _ _ (by simpa using h0) (List.getElem?_eq_getElem hg)
    obtain ⟨q1, q2, q3⟩ := e1 _ _ _ rfl
    rw [q1, q2, q3] at e2
    refine mk e2 (outs_ok hp (pre ++ [(y, p.1, p.2)]) ho' hs' fun i b hb => ?_)
    have := hh (i + 1) b (by
     simp only [adG, tags, List.getElem?_cons_succ]
     simpa using hb)
    simpa [Nat.add_assoc, Nat.add_comm 1] using this
   | _ => simp [shp] at hs
  | _ => simp [shp] at hs
theorem FnM.of_wp {P : Program} {T : Nat → Ty} {eqk : Nat → List Nat} (hT : TyOK P T) {f : Nat} {fn : Func} {c : Code} {rs : List ResultVar} {b : Bool} {cs outs : List At} {n res : Int}
    (hf : P.funcs[f]? = some fn) (hb : fn.body = some c) (hcall : ∀ as w, (callFunc f as).run P w = .ok (.enter f as) w) (hres : fn.results = rs.toArray) (hone : b = false → cs.length = 1) (hsh : shp cs outs)
    (h : ∀ (C : Ctx) (tg : Nat → Option (Value × List Nat × List Value)), WP P C c (kont P C [] (retM ⟨P, T, C, eqk⟩ rs res (adG tg 0 outs))) (stM tg b cs n fn.ntmps)) : FnM P f b cs outs n res := by
 refine ⟨hcall, hone, fun w l Ps hl hnd hlt => ?_⟩
 let C : Ctx := ⟨w, trs Ps, fun _ => none⟩
 refine calls_of_wp hf hb ?_
 have hr0 : Rel C [] (fun _ => none) ⟨[.o .u, oi n] ++ List.replicate (fn.ntmps - 2) (.t []), []⟩ { tmps := #[argV b l, .int .i64 n] ++ Array.replicate (fn.ntmps - 2) undef, defers := [] } w := by
  refine ⟨⟨by simp; omega, fun i s y h1 h2 => ?_, rfl⟩, ⟨rfl, fun i b x h => by simp at h, fun i b x h => by simp at h, fun i j b b' x x' _ h => by simp at h, fun i b x h => by simp at h, fun i b x h => by simp at h⟩, (fun b cs h => by cases h),
   ⟨rfl, rfl, rfl, Nat.le_refl _, fun _ _ _ => rfl⟩, ⟨View.le.refl _, (fun b cs h => by cases h), (fun b cs h => by cases h)⟩⟩
  match i with
  | 0 => simp at h1; subst h1; trivial
  | 1 =>
   rw [Array.getElem?_append_left (by simp)] at h2
   simp at h1 h2; subst h1; subst h2; exact ⟨[], .v _ rfl⟩
  | i + 2 =>
   rw [List.getElem?_append_right (by simp)] at h1
   rw [Array.getElem?_append_right (by simp)] at h2
   simp [List.getElem?_replicate, Array.getElem?_replicate] at h1 h2
   obtain ⟨_, rfl⟩ := h1
   obtain ⟨_, rfl⟩ := h2
   exact undef_ok _ _
 obtain ⟨g, hr1, hg, hc⟩ := adoptO_ok (tg := fun j => (tags cs l Ps)[j]?) (j := 0) hr0 hl hnd (fun k hk => ⟨.inr hk, hlt k hk, rfl, fun i hb x e => by simp at e⟩) (tagOK_tags (cs := cs) (l := l) (Ps := Ps) [])
 have hr : Rel C g (fun _ => none) (stM (fun j => (tags cs l Ps)[j]?) b cs n fn.ntmps) { tmps := #[argV b l, .int .i64 n] ++ Array.replicate (fn.ntmps - 2) undef, defers := [] } w := by
  refine ⟨⟨by simp [stM]; omega, fun i s y h1 h2 => ?_, rfl⟩, by simpa [stM] using hr1.hp, hr1.mod, hr1.fr, hr1.vw⟩
  match i with
  | 0 =>
   rw [Array.getElem?_append_left (by simp)] at h2
   simp [stM] at h1 h2
   subst h1; subst h2
   unfold adSb argV
   cases b with
   | true => simp only [if_true]; exact ⟨l, rfl, by simpa using hc⟩
   | false =>
    have h1 := hone rfl
    have hla : (adA 0 cs).length = 1 := by rw [adA_len]; exact h1
    have hll : l.length = 1 := by rw [hl.1]; exact h1
    match he : adA 0 cs, hla, l, hll with
    | [x], _, [y], _ =>
     simp only [Bool.false_eq_true, if_false]
     have hc' : cL g (fun _ => none) (adA 0 cs) [y] := by simpa using hc
     rw [he] at hc'
     exact hc'.2 0 x y rfl rfl
  | i + 1 =>
   have := hr1.sl.slot (i + 1) s y (by simpa [stM] using h1) h2
   exact this
 have hsz : (#[argV b l, .int .i64 n] : Array Value).size = 2 := rfl
 rw [hsz]
 refine wp_mono (h C _ g _ _ w hr) fun e a' w' q => ?_
 have fin : ∀ (g : List Gh) (V : View) (st : St), Rel C g V st a' w' → RetOK ⟨P, T, C, eqk⟩ st rs (oi res) ∧ preH st.h (adG (fun j => (tags cs l Ps)[j]?) 0 outs) →
     ∃ y, (results fn a'.tmps).run P w' = .ok y w' ∧ (Ending.returned y = .returned (.int .i64 res) ∧ Turned (trs Ps) w w' ∧ oL w' outs l Ps) := by
  intro g V st hr' hret
  obtain ⟨⟨⟨l0, h1, h2, h3, h4⟩, hone'⟩, hpre⟩ := hret
  obtain ⟨vs, ls, f1, f2, f3, f4, f5⟩ := retVs_ok (E := ⟨P, T, C, eqk⟩) hT hr' h1
  have f1' : (rs.mapM (rvM a')).run P w' = .ok vs w' := by
   rw [← f1]
   congr 2
  have hl0 : ∃ x, l0 = [(false, [x])] := by
   simp only [resL, List.map_cons, List.map_nil] at h2
   have hlen0 : l0.length = 1 := by simpa using congrArg List.length h2
   match l0, hlen0 with
   | [(b0, cs0)], _ =>
    simp only [List.map_cons, List.map_nil, List.cons.injEq, Prod.mk.injEq, and_true, List.length_cons, List.length_nil] at h2
    obtain ⟨rfl, h2⟩ := h2
    have h2 : cs0.length = 1 := by simpa using h2
    match cs0, h2 with
    | [x], _ => exact ⟨x, rfl⟩
  obtain ⟨x, rfl⟩ := hl0
  have hx : x = .d (iv res) := by
   simp only [resL, List.flatMap_cons, List.flatMap_nil, List.append_nil, retAs] at h3
   cases x with
   | d z => have h3 : z = _ := h3; rw [h3]
   | z => have h3 : (iv res : D) = .sl [] := h3; cases h3
   | s id =>
    simp only [retA] at h3
    split at h3
    ·cases h3
    ·exact h3.elim
   | _ => exact h3.elim
  subst hx
  match vs, ls, f2, f3 with
  | [v], [m], _, _ =>
   have hv := f4 0 false [.d (iv res)] m v rfl rfl rfl
   simp only [Bool.false_eq_true, if_false] at hv
   obtain ⟨rfl, hv2⟩ := hv
   obtain ⟨S, hL⟩ := hv2.2 0 _ v rfl rfl
   cases hL
   refine ⟨_, results_ok hres f1', rfl, ⟨hr'.fr.os, hr'.fr.tape, hr'.fr.output, hr'.fr.size, hr'.fr.block⟩, ?_⟩
   exact outs_ok hr'.hp [] hl hsh fun i b hb => by simpa using preH_get hpre i b (by simpa using hb)
 cases e with
 | normal =>
  obtain ⟨g, V', st', hr', hret⟩ := q
  obtain ⟨y, hy, hd⟩ := fin g V' st' hr' hret
  exact ⟨hr'.sl.defers, y, hy, hd⟩
 | ret =>
  obtain ⟨g, V', st', hr', hret⟩ := q
  obtain ⟨y, hy, hd⟩ := fin g V' st' hr' hret
  exact ⟨hr'.sl.defers, y, hy, hd⟩
 | exit id => obtain ⟨g, V', st', hr', q⟩ := q; exact q.elim
 | goto l => exact q.elim
 | panic ch => exact q.elim
 | outgrown => exact q.elim
end Go.Sx
end
section
set_option linter.all false
namespace Go.Sx
open Go Go.RowKit
theorem Rel.turn {C : Ctx} {g : List Gh} {V : View} {st : St} {a : Act} {w w' : World} (hr : Rel C g V st a w) {X : List Nat} (ht : Turned X w w') {h' : List HB} (hlen : h'.length = st.h.length)
    (hX : ∀ n ∈ X, V n = none ∧ (C.w0.heap.size ≤ n ∨ n ∈ C.X))
    (hh : ∀ (i : Nat) (b' : HB) (x : Gh), h'[i]? = some b' → g[i]? = some x → (st.h[i]? = some b' ∧ ∀ n ∈ ownB x b', n ∉ X) ∨ (∃ tag sz rows rows', st.h[i]? = some (.own tag sz rows) ∧ b' = .own tag sz rows' ∧ OwnR w' sz rows' x.val x.tr x.hd)) :
    Rel C g V ⟨st.t, h'⟩ a w' := by
 have hold : ∀ (i : Nat) (b' : HB) (x : Gh), h'[i]? = some b' → g[i]? = some x → ∃ b, st.h[i]? = some b ∧ ownB x b' = ownB x b ∧ rootB x b' = rootB x b := fun i b' x h1 h2 => by
  rcases hh i b' x h1 h2 with ⟨e, _⟩ | ⟨tag, sz, rows, rows', e, rfl, _⟩
  ·exact ⟨b', e, rfl, rfl⟩
  ·exact ⟨_, e, rfl, rfl⟩
 refine ⟨hr.sl, ⟨by rw [hr.hp.glen, hlen], ?_, ?_, ?_, ?_, ?_⟩, ?_, ?_, ?_⟩
 ·intro i b' x h1 h2
  rcases hh i b' x h1 h2 with ⟨e, hn⟩ | ⟨tag, sz, rows, rows', e, rfl, hO⟩
  ·exact (hr.hp.hb i b' x e h2).mono (GLe.refl g) (View.le.refl V) fun n hn' => ht.block n (hr.hp.lo i b' x e h2 n (rootB_own hn')).2 (hn n (rootB_own hn'))
  ·exact ⟨(hr.hp.hb i _ x e h2).1, hO⟩
 ·intro i b' x h1 h2
  obtain ⟨b, e, e1, _⟩ := hold i b' x h1 h2
  rw [e1]; exact hr.hp.nd i b x e h2
 ·intro i j b1 b2 x1 x2 hij h1 h2 h3 h4 n hn
  obtain ⟨b, e, e1, _⟩ := hold i b1 x1 h1 h2
  obtain ⟨c, f, f1, _⟩ := hold j b2 x2 h3 h4
  rw [e1] at hn; rw [f1]
  exact hr.hp.dj i j b c x1 x2 hij e h2 f h4 n hn
 ·intro i b' x h1 h2 n hn
  obtain ⟨b, e, e1, _⟩ := hold i b' x h1 h2
  rw [e1] at hn
  exact ⟨(hr.hp.lo i b x e h2 n hn).1, Nat.lt_of_lt_of_le (hr.hp.lo i b x e h2 n hn).2 ht.size⟩
 ·intro i b' x h1 h2 n hn
  obtain ⟨b, e, _, e2⟩ := hold i b' x h1 h2
  rw [e2] at hn
  exact hr.hp.rt i b x e h2 n hn
 ·intro b cs hb
  obtain ⟨c, ty, fz, e1, e2⟩ := hr.mod b cs hb
  exact ⟨c, ty, fz, by rw [ht.block b (hr.mod.lt hb) fun hx => by rw [(hX b hx).1] at hb; cases hb]; exact e1, e2⟩
 ·exact ⟨ht.os.trans hr.fr.os, ht.tape.trans hr.fr.tape, ht.output.trans hr.fr.output, Nat.le_trans hr.fr.size ht.size, fun k hk hkX => by
   rw [ht.block k (Nat.lt_of_lt_of_le hk hr.fr.size) fun hx => by
    rcases (hX k hx).2 with h | h
    ·omega
    ·exact hkX h]
   exact hr.fr.block k hk hkX⟩
 ·exact hr.vw.move fun b cs hb => ht.block b (hr.mod.lt hb) fun hx => by rw [(hX b hx).1] at hb; cases hb
def mrkOK (h : List HB) : List At → List At → List At → Prop
 | [], [], [] => True
 | .d (.v x) :: as, .d (.v y) :: cs, _ :: outs => x = y ∧ mrkOK h as cs outs
 | .s id :: as, .w _ sz rows :: cs, .w _ sz' _ :: outs => (match nthH h id with
  | .own _ sz0 r => sz0 = sz ∧ sz0 = sz' ∧ r = rows
  | _ => False) ∧ memN id (idsL as) = false ∧ mrkOK h as cs outs
 | _, _, _ => False
def markH : List HB → List At → List At → List HB
 | h, .s id :: as, .w _ _ rows' :: outs => match nthH h id with
  | .own tag sz _ => markH (setH h id (.own tag sz rows')) as outs
  | _ => markH h as outs
 | h, _ :: as, _ :: outs => markH h as outs
 | h, _, _ => h
theorem markH_len : ∀ (h : List HB) (as outs : List At), (markH h as outs).length = h.length
 | h, [], outs => by cases outs <;> rfl
 | h, a :: as, [] => by cases a <;> rfl
 | h, a :: as, o :: outs => by
  cases a with
  | s id => cases o with
   | w t s r =>
    simp only [markH]
    split
    ·rw [markH_len, setH_eq, List.length_set]
    ·exact markH_len h as outs
   | _ => exact markH_len h as outs
  | _ => exact markH_len h as outs
theorem mrk_oL {C : Ctx} {g : List Gh} {V : View} {w : World} {h : List HB} (hp : Hp C g V h w) : ∀ {as cs outs : List At} {l : List Value}, mrkOK h as cs outs → cL g V as l →
    ∃ Ps, oL w cs l Ps ∧ (trs Ps).Nodup ∧ (∀ n ∈ trs Ps, ∃ id ∈ idsL as, ∃ (x : Gh) (b : HB), h[id]? = some b ∧ g[id]? = some x ∧ n ∈ ownB x b ∧ n ∈ rootB x b) ∧
     ∀ (k id : Nat), as[k]? = some (.s id) → ∃ (tag : Option (Value × List Nat × List Value)) (sz ty : Nat) (rows rows' : List (List D)) (x : Gh), h[id]? = some (.own tag sz rows) ∧ g[id]? = some x ∧ outs[k]? = some (.w ty sz rows') ∧ l[k]? = some x.val ∧ Ps[k]? = some (x.tr, x.hd)
 | [], [], [], l, _, hc => by
  have := hc.nil_inv; subst this
  exact ⟨[], ⟨rfl, rfl, fun k a y p e => by simp at e⟩, by simp [trs], fun n hn => by simp [trs] at hn, fun k id hid => by simp at hid⟩
 | a :: as, c :: cs, o :: outs, l, hm, hc => by
  obtain ⟨y, l', rfl, hy, hl⟩ := hc.cons_inv
  cases a with
  | d dx => cases dx with
   | v x => cases c with
    | d dz => cases dz with
     | v z =>
      obtain ⟨rfl, hm'⟩ := hm
      obtain ⟨Ps, h1, h2, h3, h4⟩ := mrk_oL hp hm' hl
      obtain ⟨S, hS⟩ := hy
      cases hS with
      | v _ hsc =>
      refine ⟨([], []) :: Ps, ⟨by simp [h1.1], by simp [h1.2.1], fun k a' y' p' e1 e2 e3 => ?_⟩, by simpa [trs] using h2, fun n hn => ?_, fun k id hid => ?_⟩
      ·cases k with
       | zero => simp at e1 e2 e3; subst e1; subst e2; subst e3; exact ⟨rfl, hsc, rfl⟩
       | succ k => exact h1.2.2 k a' y' p' (by simpa using e1) (by simpa using e2) (by simpa using e3)
      ·exact h3 n (by simpa [trs] using hn)
      ·cases k with
       | zero => simp at hid
       | succ k =>
        obtain ⟨tag, sz, ty, rows, rows', gx, q1, q2, q3, q4, q5⟩ := h4 k id (by simpa using hid)
        exact ⟨tag, sz, ty, rows, rows', gx, q1, q2, by simpa using q3, by simpa using q4, by simpa using q5⟩
     | sl r => simp [mrkOK] at hm
    | _ => simp [mrkOK] at hm
   | sl r => simp [mrkOK] at hm
  | s id => cases c with
   | w ty0 sz rows => cases o with
    | w ty1 sz' rows' =>
     obtain ⟨hid, hmem, hm'⟩ := hm
     split at hid
     ·rename_i tag sz0 r e
      obtain ⟨rfl, rfl, rfl⟩ := hid
      have hi := nthH_some e (by simp)
      obtain ⟨gx, hg, hv, _⟩ := hy
      obtain ⟨htag, hO⟩ := hp.hb id _ gx hi hg
      have hnd : gx.tr.Nodup := hp.nd id _ gx hi hg
      obtain ⟨Ps, h1, h2, h3, h4⟩ := mrk_oL hp hm' hl
      have hni : id ∉ idsL as := fun hm => by have := (memN_iff id (idsL as)).2 hm; rw [hmem] at this; cases this
      refine ⟨(gx.tr, gx.hd) :: Ps, ⟨by simp [h1.1], by simp [h1.2.1], fun k a' y' p' e1 e2 e3 => ?_⟩, ?_, fun n hn => ?_, fun k id' hid' => ?_⟩
      ·cases k with
       | zero => simp at e1 e2 e3; subst e1; subst e2; subst e3; rw [hv]; exact hO
       | succ k => exact h1.2.2 k a' y' p' (by simpa using e1) (by simpa using e2) (by simpa using e3)
      ·simp only [trs, List.map_cons, List.flatten_cons]
       refine List.nodup_append.2 ⟨hnd, h2, fun b hb c hc' => ?_⟩
       rintro rfl
       obtain ⟨id2, hid2, x2, b2, f1, f2, f3, _⟩ := h3 b hc'
       exact hp.dj id id2 _ b2 gx x2 (fun e => hni (e ▸ hid2)) hi hg f1 f2 b hb f3
      ·simp only [trs, List.map_cons, List.flatten_cons, List.mem_append] at hn
       rcases hn with hn | hn
       ·exact ⟨id, by simp [idsL], gx, _, hi, hg, hn, hn⟩
       ·obtain ⟨id2, hid2, r⟩ := h3 n hn
        exact ⟨id2, by simp [idsL, hid2], r⟩
      ·cases k with
       | zero =>
        simp at hid'
        subst hid'
        exact ⟨tag, _, ty1, _, rows', gx, hi, hg, rfl, by simp [hv], rfl⟩
       | succ k =>
        obtain ⟨tag, sz, ty, rows, rows', gx', q1, q2, q3, q4, q5⟩ := h4 k id' (by simpa using hid')
        exact ⟨tag, sz, ty, rows, rows', gx', q1, q2, by simpa using q3, by simpa using q4, by simpa using q5⟩
     ·exact hid.elim
    | _ => simp [mrkOK] at hm
   | _ => simp [mrkOK] at hm
  | _ => simp [mrkOK] at hm
 | [], _ :: _, _, _, hm, _ => by simp [mrkOK] at hm
 | [], [], _ :: _, _, hm, _ => by simp [mrkOK] at hm
 | a :: as, [], _, _, hm, _ => by cases a with
  | d x => cases x <;> simp [mrkOK] at hm
  | _ => simp [mrkOK] at hm
 | a :: as, c :: cs, [], _, hm, _ => by cases a with
  | d x => cases x with
   | v x => cases c with
    | d z => cases z <;> simp [mrkOK] at hm
    | _ => simp [mrkOK] at hm
   | sl r => simp [mrkOK] at hm
  | s id => cases c <;> simp [mrkOK] at hm
  | _ => simp [mrkOK] at hm
theorem markH_get : ∀ {as cs outs : List At} {h0 h : List HB}, mrkOK h0 as cs outs → (∀ id ∈ idsL as, h[id]? = h0[id]?) → ∀ (i : Nat) (b' : HB), (markH h as outs)[i]? = some b' →
    (h[i]? = some b' ∧ i ∉ idsL as) ∨ (i ∈ idsL as ∧ ∃ (k ty sz : Nat) (tag : Option (Value × List Nat × List Value)) (rows rows' : List (List D)), as[k]? = some (.s i) ∧ outs[k]? = some (.w ty sz rows') ∧ h[i]? = some (.own tag sz rows) ∧ b' = .own tag sz rows')
 | [], cs, outs, h0, h, hm, _, i, b', hb => by
  have : markH h [] outs = h := by cases outs <;> rfl
  rw [this] at hb
  exact .inl ⟨hb, by simp [idsL]⟩
 | a :: as, [], outs, h0, h, hm, _, i, b', hb => by cases a with
  | d x => cases x <;> simp [mrkOK] at hm
  | _ => simp [mrkOK] at hm
 | a :: as, c :: cs, [], h0, h, hm, _, i, b', hb => by cases a with
  | d x => cases x with
   | v x => cases c with
    | d z => cases z <;> simp [mrkOK] at hm
    | _ => simp [mrkOK] at hm
   | sl r => simp [mrkOK] at hm
  | s id => cases c <;> simp [mrkOK] at hm
  | _ => simp [mrkOK] at hm
 | a :: as, c :: cs, o :: outs, h0, h, hm, heq, i, b', hb => by
  cases a with
  | d dx => cases dx with
   | v x => cases c with
    | d dz => cases dz with
     | v z =>
      have hb' : (markH h as outs)[i]? = some b' := by cases o <;> exact hb
      rcases markH_get hm.2 heq i b' hb' with h1 | ⟨h1, k, ty, sz, tag, rows, rows', q1, q2, q3, q4⟩
      ·exact .inl h1
      ·exact .inr ⟨h1, k + 1, ty, sz, tag, rows, rows', by simpa using q1, by simpa using q2, q3, q4⟩
     | sl r => simp [mrkOK] at hm
    | _ => simp [mrkOK] at hm
   | sl r => simp [mrkOK] at hm
  | s id => cases c with
   | w ty0 sz rows => cases o with
    | w ty1 sz' rows' =>
     obtain ⟨hid, hmem, hm'⟩ := hm
     split at hid
     ·rename_i tag sz0 r e
      obtain ⟨rfl, rfl, rfl⟩ := hid
      have hi0 := nthH_some e (by simp)
      have hi : h[id]? = some (.own tag sz0 r) := by rw [heq id (by simp [idsL])]; exact hi0
      have hnth : nthH h id = .own tag sz0 r := by rw [nthH_eq, List.getD_eq_getElem?_getD, hi]; rfl
      have hni : id ∉ idsL as := fun hm => by have := (memN_iff id (idsL as)).2 hm; rw [hmem] at this; cases this
      simp only [markH, hnth] at hb
      have hlt : id < h.length := (List.getElem?_eq_some_iff.1 hi).1
      rcases markH_get (h := setH h id (.own tag sz0 rows')) hm' (fun j hj => by
       have hne : id ≠ j := fun e => hni (by rw [e]; exact hj)
       rw [setH_eq, List.getElem?_set, if_neg hne]
       exact heq j (by simp [idsL, hj])) i b' hb with ⟨h1, h2⟩ | ⟨h1, k, ty, sz, tag', rows1, rows1', q1, q2, q3, q4⟩
      ·rw [setH_eq, List.getElem?_set] at h1
       by_cases hii : id = i
       ·subst hii
        rw [if_pos rfl, if_pos hlt] at h1
        cases h1
        exact .inr ⟨by simp [idsL], 0, ty1, sz0, tag, r, rows', rfl, rfl, hi, rfl⟩
       ·rw [if_neg hii] at h1
        exact .inl ⟨h1, fun hm => by
         simp only [idsL, List.mem_cons] at hm
         rcases hm with hm | hm
         ·exact hii hm.symm
         ·exact h2 hm⟩
      ·have hne : id ≠ i := fun e => hni (e ▸ h1)
       rw [setH_eq, List.getElem?_set, if_neg hne] at q3
       exact .inr ⟨by simp [idsL, h1], k + 1, ty, sz, tag', rows1, rows1', by simpa using q1, by simpa using q2, q3, q4⟩
     ·exact hid.elim
    | _ => simp [mrkOK] at hm
   | _ => simp [mrkOK] at hm
  | _ => simp [mrkOK] at hm
def cellsM (b : Bool) : SV → Option (List At)
 | .o x => if b then none else some [x]
 | .g cs => if b then some cs else none
 | _ => none
theorem CallS.mark {E : Env} {f : Nat} {b : Bool} {cs outs as : List At} {n res : Int} {a0 : SV} {st : St} {K : St → SV → Prop} (h : FnM E.P f b cs outs n res) (ha : cellsM b a0 = some as) (hm : mrkOK st.h as cs outs)
    (k : K ⟨st.t, markH st.h as outs⟩ (oi res)) : CallS E f [a0, oi n] st K := by
 refine ⟨h.enters, fun g V a w vs hr hlen hargs => ?_⟩
 obtain ⟨v0, v1, rfl⟩ : ∃ v0 v1, vs = [v0, v1] := by
  match vs, hlen with
  | [v0, v1], _ => exact ⟨v0, v1, rfl⟩
 have h0 := hargs 0 a0 v0 rfl rfl
 have h1 := hargs 1 (oi n) v1 rfl rfl
 obtain ⟨h1, _⟩ := cSV_scalar h1
 subst h1
 obtain ⟨l, hl, hc⟩ : ∃ l, v0 = argV b l ∧ cL g V as l := by
  cases a0 with
  | o x =>
   cases b with
   | true => simp [cellsM] at ha
   | false => simp [cellsM] at ha; subst ha; exact ⟨[v0], rfl, cL.cons h0 (cL.nil g V)⟩
  | g cs' =>
   cases b with
   | true => simp [cellsM] at ha; subst ha; obtain ⟨l, hl, hc⟩ := h0; exact ⟨l, hl, hc⟩
   | false => simp [cellsM] at ha
  | t l => simp [cellsM] at ha
 obtain ⟨Ps, p1, p2, p3, p4⟩ := mrk_oL hr.hp hm hc
 subst hl
 refine (h.calls w l Ps p1 p2 (fun n hn => by obtain ⟨id, _, x, b', e1, e2, e3, _⟩ := p3 n hn; exact (hr.hp.lo id b' x e1 e2 n e3).2)).mono ?_
 rintro e w' ⟨rfl, ht, ho⟩
 refine ⟨_, g, V, _, _, rfl, hr.turn ht (markH_len _ _ _) (fun n hn => ?_) (fun i b' x e1 e2 => ?_), scalar_ok g V _ rfl, k⟩
 ·obtain ⟨id, _, x, b', e1, e2, e3, e4⟩ := p3 n hn
  exact ⟨hr.hp.rt id b' x e1 e2 n e4, (hr.hp.lo id b' x e1 e2 n e3).1⟩
 ·rcases markH_get hm (fun _ _ => rfl) i b' e1 with ⟨q1, q2⟩ | ⟨q1, _⟩
  ·refine .inl ⟨q1, fun n hn hX => ?_⟩
   obtain ⟨id, hid, x2, b2, f1, f2, f3, _⟩ := p3 n hX
   exact hr.hp.dj i id b' b2 x x2 (fun e => q2 (e ▸ hid)) q1 e2 f1 f2 n hn f3
  ·rcases markH_get hm (fun _ _ => rfl) i b' e1 with ⟨_, q2⟩ | ⟨_, kk, ty, sz, tag, rows, rows', r1, r2, r3, r4⟩
   ·exact (q2 q1).elim
   ·right
    obtain ⟨tag2, sz2, ty2, rows2, rows2', x2, s1, s2, s3, s4, s5⟩ := p4 kk i r1
    rw [e2] at s2; cases s2
    rw [r3] at s1; cases s1
    have s6 := s3
    rw [r2] at s6; cases s6
    exact ⟨tag, sz, rows, rows', r3, r4, ho.2.2 kk _ _ _ s3 s4 s5⟩
def isG : SV → Option Bool
 | .o _ => some false
 | .g _ => some true
 | .t _ => none
theorem Lay.sl_sz {V : View} {rows : List (List D)} {y : Value} {S : List Nat} (h : Lay V (.sl rows) y S) : y = .slice none 0 0 → S = [] := by
 intro e
 cases h with
 | nil => rfl
 | sl => cases e
theorem OwnR.of_lay {w : World} {U : View} {sz : Nat} {rows : List (List D)} {y : Value} {S : List Nat} (h : Lay U (.sl rows) y S) (hm : Mod U w) (hu : ∀ b ∈ S, ∀ cs, U b = some cs → Unf w b) (h0 : ∀ r ∈ rows, r.length = sz) : ∃ hd, OwnR w sz rows y S hd := by
 let U1 : View := fun n => if n ∈ S then U n else none
 have hU1 : ∀ n, n ∈ S → U1 n = U n := fun n hn => by simp [U1, hn]
 have hL : Lay U1 (.sl rows) y S := h.restrict fun b hb cs hcs => ⟨cs, by rw [hU1 b hb]; exact hcs, List.prefix_refl _⟩
 have hm1 : Mod U1 w := fun b cs hb => by
  simp only [U1] at hb
  split at hb
  ·exact hm b cs hb
  ·cases hb
 have hu1 : ∀ b cs, U1 b = some cs → b ∈ S ∧ Unf w b := fun b cs hb => by
  simp only [U1] at hb
  split at hb
  ·exact ⟨‹_›, hu b ‹_› cs hb⟩
  ·cases hb
 have hS := hL.sl_sz
 rcases lay_sl_inv hL with ⟨e, rfl⟩ | ⟨ad, cap, sz', ys, Ss, e, _, e1, e2, e3, e4, e5⟩
 ·exact ⟨[], h0, U1, [], [], hm1, hu1, LayL.nil _, fun k rs q => by simp at q, .inl ⟨e, rfl, hS e⟩⟩
 ·exact ⟨ys, h0, U1, ys, Ss, hm1, hu1, e3, fun k rs _ => rfl, .inr ⟨ad, cap, e, e1, e2, e4, e5⟩⟩
theorem OwnR.part {w : World} {sz : Nat} {rows : List (List D)} {y : Value} {S : List Nat} {hd : List Value} (h : OwnR w sz rows y S hd) (hnd : S.Nodup)
    {i fo sz' : Nat} {sub : List (List D)} (hi : i < rows.length) (hf : (rwAt rows i)[fo]? = some (.sl sub)) (hs : ∀ r ∈ sub, r.length = sz') :
    ∃ (z : Value) (Sp : List Nat) (hd' : List Value), hd[i * sz + fo]? = some z ∧ (∀ n ∈ Sp, n ∈ S) ∧ Sp.Nodup ∧ OwnR w sz' sub z Sp hd' ∧
     ∀ w' sub', (∀ k ∈ S, k ∉ Sp → w'.heap[k]? = w.heap[k]?) → OwnR w' sz' sub' z Sp hd' → OwnR w' sz (rows.set i ((rwAt rows i).set fo (.sl sub'))) y S hd := by
 obtain ⟨h0, U, ys, Ss, h1, h2, h3, h4, h5⟩ := h
 rw [rwAt_get rows hi] at hf ⊢
 have hflat := flatten_row h0 hi hf
 have hfo : fo < sz := by rw [← h0 _ (List.getElem_mem hi)]; exact (List.getElem?_eq_some_iff.1 hf).1
 have hpl : i * sz + fo < rows.flatten.length := (List.getElem?_eq_some_iff.1 hflat).1
 have hlt : i * sz + fo < ys.length := by rw [h3.1]; exact hpl
 have hlt2 : i * sz + fo < Ss.length := by rw [h3.2.1]; exact hpl
 have hfs : ∀ d, (rows.set i (rows[i].set fo d)).flatten = rows.flatten.set (i * sz + fo) d := fun d => flatten_set d hfo h0 hi
 generalize hp : i * sz + fo = p at *
 have hz : ys[p]? = some ys[p] := List.getElem?_eq_getElem hlt
 have hzS : Ss[p]? = some Ss[p] := List.getElem?_eq_getElem hlt2
 have hLp := h3.2.2 p _ _ _ hflat hz hzS
 rcases h5 with ⟨_, rfl, _⟩ | ⟨a, cap, e, hcap, hmax, hc, hS⟩
 ·simp at hi
 ·have hne : rows.isEmpty = false := by cases rows <;> simp_all
  rw [hne] at hS
  simp only [Bool.false_eq_true, if_false, List.singleton_append] at hS
  have hnd' := hnd
  rw [hS] at hnd'
  have hbn : a.block ∉ Ss.flatten := (List.nodup_cons.1 hnd').1
  have hSsnd := (List.nodup_cons.1 hnd').2
  have hsub : ∀ n ∈ Ss[p], n ∈ S := fun n hn => by
   rw [hS]; exact List.mem_cons_of_mem _ (List.mem_flatten.2 ⟨_, List.mem_of_getElem? hzS, hn⟩)
  have hspl : Ss = Ss.take p ++ Ss[p] :: Ss.drop (p + 1) := by
   rw [← List.drop_eq_getElem_cons hlt2, List.take_append_drop]
  have hfl : Ss.flatten = (Ss.take p).flatten ++ (Ss[p] ++ (Ss.drop (p + 1)).flatten) := by
   have := congrArg List.flatten hspl
   rw [List.flatten_append, List.flatten_cons] at this
   exact this
  have hndp : Ss[p].Nodup := by
   rw [hfl] at hSsnd
   exact (List.nodup_append.1 (List.nodup_append.1 hSsnd).2.1).1
  have hdis : ∀ (k : Nat) (T : List Nat), k ≠ p → Ss[k]? = some T → ∀ n ∈ T, n ∉ Ss[p] := fun k T hk hT n hn hn' => by
   rw [hfl] at hSsnd
   obtain ⟨_, q2, q3⟩ := List.nodup_append.1 hSsnd
   rcases Nat.lt_or_ge k p with hl | hl
   ·exact q3 n (List.mem_flatten.2 ⟨T, List.mem_of_getElem? (by rw [List.getElem?_take, if_pos hl]; exact hT), hn⟩) n (List.mem_append.2 (.inl hn')) rfl
   ·have hl' : p + 1 ≤ k := by omega
    exact (List.nodup_append.1 q2).2.2 n hn' n (List.mem_flatten.2 ⟨T, List.mem_of_getElem? (i := k - (p + 1)) (by rw [List.getElem?_drop, show p + 1 + (k - (p + 1)) = k by omega]; exact hT), hn⟩) rfl
  obtain ⟨hd', hO⟩ := OwnR.of_lay (sz := sz') hLp h1 (fun b _ cs hcs => (h2 b cs hcs).2) hs
  refine ⟨ys[p], Ss[p], hd', (h4 p _ hflat).trans hz, hsub, hndp, hO, fun w' sub' hw' hO' => ?_⟩
  obtain ⟨U2, m1, m2, m3⟩ := own_lay hO'
  let U' : View := fun n => if n ∈ Ss[p] then U2 n else U n
  have hin : ∀ n, n ∈ Ss[p] → U' n = U2 n := fun n hn => by simp [U', hn]
  have hout : ∀ n, n ∉ Ss[p] → U' n = U n := fun n hn => by simp [U', hn]
  have hbp : a.block ∉ Ss[p] := fun hb => hbn (List.mem_flatten.2 ⟨_, List.mem_of_getElem? hzS, hb⟩)
  refine ⟨fun r hr => ?_, U', ys, Ss, fun n cs hn => ?_, fun n cs hn => ?_, ⟨by rw [hfs, List.length_set]; exact h3.1, by rw [hfs, List.length_set]; exact h3.2.1, fun k d z T q1 q2 q3 => ?_⟩, fun k rs q => ?_, .inr ⟨a, cap, by simpa using e, by simpa using hcap, hmax, fun k z hk => ?_, ?_⟩⟩
  ·rcases List.mem_or_eq_of_mem_set hr with hr | hr
   ·exact h0 r hr
   ·rw [hr, List.length_set]; exact h0 _ (List.getElem_mem hi)
  ·by_cases hb : n ∈ Ss[p]
   ·rw [hin n hb] at hn; exact m1 n cs hn
   ·rw [hout n hb] at hn
    obtain ⟨c, ty, fz, g1, g2⟩ := h1 n cs hn
    exact ⟨c, ty, fz, by rw [hw' n (h2 n cs hn).1 hb]; exact g1, g2⟩
  ·by_cases hb : n ∈ Ss[p]
   ·rw [hin n hb] at hn; exact ⟨hsub n hb, (m2 n cs hn).2⟩
   ·rw [hout n hb] at hn
    obtain ⟨g0, c, ty, g1⟩ := h2 n cs hn
    exact ⟨g0, c, ty, by rw [hw' n g0 hb]; exact g1⟩
  ·rw [hfs, List.getElem?_set] at q1
   by_cases hk : p = k
   ·subst hk
    rw [if_pos rfl, if_pos hpl] at q1
    cases q1
    rw [hz] at q2; cases q2
    rw [hzS] at q3; cases q3
    exact m3.restrict fun b hb cs hcs => ⟨cs, by rw [hin b hb]; exact hcs, List.prefix_refl _⟩
   ·rw [if_neg hk] at q1
    exact (h3.2.2 k d z T q1 q2 q3).restrict fun b hb cs hcs => ⟨cs, by rw [hout b (hdis k T (fun e => hk e.symm) q3 b hb)]; exact hcs, List.prefix_refl _⟩
  ·rw [hfs, List.getElem?_set] at q
   by_cases hk : p = k
   ·subst hk; exact h4 p _ hflat
   ·rw [if_neg hk] at q; exact h4 k rs q
  ·obtain ⟨s1, cs1, s2, s3⟩ := View.cell_some (hc k z hk)
   rw [add_block] at s2
   simp only [View.cell, s1, Option.isSome_none, Bool.false_eq_true, if_false, add_block]
   rw [hout _ hbp, s2]
   exact s3
  ·have hne2 : (rows.set i (rows[i].set fo (.sl sub'))).isEmpty = false := by
    rw [List.isEmpty_eq_false_iff]
    intro hh
    have := congrArg List.length hh
    rw [List.length_set] at this
    simp at this
    subst this
    simp at hi
   rw [hne2]
   simp only [Bool.false_eq_true, if_false, List.singleton_append]
   exact hS
theorem CallS.part {E : Env} {f : Nat} {ty0 ty1 sz' : Nat} {sub0 sub1 : List (List D)} {n res : Int} {id sz i fo : Nat} {st : St} {K : St → SV → Prop} (h : FnM E.P f false [.w ty0 sz' sub0] [.w ty1 sz' sub1] n res)
    {tag : Option (Value × List Nat × List Value)} {rows : List (List D)} {r : List D} (hown : nthH st.h id = .own tag sz rows) (hi : i < rows.length) (hf : sub (rwAt rows i) fo 1 = some [.sl sub0]) (hsp : splice (rwAt rows i) fo [.sl sub1] = some r) (hs : uni sz' sub0)
    (k : K ⟨st.t, setH st.h id (.own tag sz (rows.set i r))⟩ (oi res)) : CallS E f [.o (.n id sz i fo), oi n] st K := by
 refine ⟨h.enters, fun g V a w vs hr hlen hargs => ?_⟩
 obtain ⟨v0, v1, rfl⟩ : ∃ v0 v1, vs = [v0, v1] := by
  match vs, hlen with
  | [v0, v1], _ => exact ⟨v0, v1, rfl⟩
 have h0 := hargs 0 _ v0 rfl rfl
 have h1 := hargs 1 (oi n) v1 rfl rfl
 obtain ⟨h1, _⟩ := cSV_scalar h1
 subst h1
 obtain ⟨gh, hg, hv, _⟩ := h0
 have hi' := nthH_some hown (by simp)
 obtain ⟨htag, hO⟩ := hr.hp.hb id _ gh hi' hg
 have hnd : gh.tr.Nodup := hr.hp.nd id _ gh hi' hg
 obtain ⟨hr', _⟩ := splice_one hsp
 obtain ⟨z, Sp, hd', e1, e2, e3, e4, e5⟩ := hO.part hnd hi (sub_get hf) hs
 rw [hv] at e1; cases e1
 refine (h.calls w [v0] [(Sp, hd')] ⟨rfl, rfl, fun k a y p q1 q2 q3 => ?_⟩ (by simpa [trs] using e3) (fun b hb => (hr.hp.lo id _ gh hi' hg b (e2 b (by simpa [trs] using hb))).2)).mono ?_
 ·cases k with
  | zero => simp at q1 q2 q3; subst q1; subst q2; subst q3; exact e4
  | succ k => simp at q1
 rintro e w' ⟨rfl, ht, ho⟩
 have hO1 := ho.2.2 0 _ v0 (Sp, hd') rfl rfl rfl
 have htX : ∀ n, n ∈ trs [(Sp, hd')] ↔ n ∈ Sp := fun n => by simp [trs]
 have hOw := e5 w' sub1 (fun b hb hn => ht.block b (hr.hp.lo id _ gh hi' hg b hb).2 (fun hx => hn ((htX b).1 hx))) hO1
 rw [← hr'] at hOw
 refine ⟨_, g, V, _, _, rfl, hr.turn ht (by rw [setH_eq, List.length_set]) (fun b hb => ?_) (fun j b' x q1 q2 => ?_), scalar_ok g V _ rfl, k⟩
 ·have hb' := e2 b ((htX b).1 hb)
  exact ⟨hr.hp.rt id _ gh hi' hg b hb', (hr.hp.lo id _ gh hi' hg b hb').1⟩
 ·rw [setH_eq, List.getElem?_set] at q1
  by_cases hj : id = j
  ·subst hj
   rw [if_pos rfl, if_pos (List.getElem?_eq_some_iff.1 hi').1] at q1
   cases q1
   rw [hg] at q2; cases q2
   exact .inr ⟨tag, sz, rows, rows.set i r, hi', rfl, hOw⟩
  ·rw [if_neg hj] at q1
   refine .inl ⟨q1, fun b hb hX => ?_⟩
   exact hr.hp.dj j id b' _ x gh (fun e => hj e.symm) q1 q2 hi' hg b hb (e2 b ((htX b).1 hX))
def partOK (h : List HB) (id sz i fo sz' : Nat) (sub0 : List (List D)) : Prop :=
 match nthH h id with
 | .own _ sz0 rows => sz0 = sz ∧ i < rows.length ∧ uni sz' sub0 ∧ (match sub (rwAt rows i) fo 1 with
  | some [.sl s] => s = sub0
  | _ => False)
 | _ => False
def partH (h : List HB) (id i fo : Nat) (sub1 : List (List D)) : List HB :=
 match nthH h id with
 | .own tag sz rows => match splice (rwAt rows i) fo [.sl sub1] with
  | some r => setH h id (.own tag sz (rows.set i r))
  | none => h
 | _ => h
end Go.Sx
end
section
set_option linter.all false
namespace Go.Sx
open Go Go.RowKit
structure Gave (V : View) (w : World) (S : List Nat) (ty sz : Nat) (inp : Bool) (rows : List (List D)) (y : Value) (w' : World) : Prop where
 grown : w.grownBy w' S.head?
 out : ∃ S', RowR V w' ty sz rows y S' ∧ S'.Nodup ∧ (∀ b ∈ S', b ∈ S ∨ (w.heap.size ≤ b ∧ b < w'.heap.size)) ∧ (inp = true → S'.head? = S.head?)
structure FnI (P : Program) (f : Nat) (ty sz : Nat) (rows : List (List D)) (args : List SV) (inp : Bool) (rows' : List (List D)) : Prop where
 enters : ∀ as w, (callFunc f as).run P w = .ok (.enter f as) w
 calls : ∀ V w y S vs, Mod V w → RowR V w ty sz rows y S → S.Nodup → (∀ b ∈ S, b < w.heap.size) → cArgs V args vs →
  Calls P f (y :: vs).toArray w fun e w' => ∃ y', e = .returned (if inp then .tuple #[] else y') ∧ (inp = true → y' = y) ∧ Gave V w S ty sz inp rows' y' w'
section
variable {C : Ctx} {g : List Gh} {V : View} {st : St} {a : Act} {w : World}
theorem row_RowR {ty sz : Nat} {rows : List (List D)} {x : Gh} (h : HBok g V w x (.row ty sz rows true)) (hrt : ∀ n ∈ rootB x (.row ty sz rows true), V n = none) : RowR V w ty sz rows x.val (ownB x (.row ty sz rows true)) := by
 obtain ⟨h0, ys, Ss, h1, h2, h3⟩ := h
 refine ⟨h0, ys, Ss, h1, ?_⟩
 rcases h3 with ⟨e1, e2, rfl⟩ | ⟨b, cap, c, e1, e2, e3, e4, e5, e6, e7⟩
 ·refine .inl ⟨e2, rfl, ?_⟩
  have hS : Ss = [] := by have := h1.2.1; simpa using this
  simp [ownB, e1, h2 rfl, hS]
 ·exact .inr ⟨b, cap, c, e2, e3, e4, e5, e6, e7, hrt b (by simp [rootB, e1]), by simp [ownB, e1, h2 rfl]⟩
theorem head_blk {ty sz : Nat} {rows : List (List D)} {x : Gh} (h : HBok g V w x (.row ty sz rows true)) : (ownB x (.row ty sz rows true)).head? = x.blk := by
 obtain ⟨_, ys, Ss, h1, h2, h3⟩ := h
 rcases h3 with ⟨e1, e2, rfl⟩ | ⟨b, cap, c, e1, _⟩
 ·have hS : Ss = [] := by have := h1.2.1; simpa using this
  simp [ownB, e1, h2 rfl, hS]
 ·simp [ownB, e1]
theorem RowR_row {ty sz : Nat} {rows : List (List D)} {y : Value} {S : List Nat} (h : RowR V w ty sz rows y S) (hd : List Value) : ∃ x' : Gh, x'.val = y ∧ x'.hd = hd ∧ x'.blk = S.head? ∧ ownB x' (.row ty sz rows true) = S ∧ (∀ n ∈ rootB x' (.row ty sz rows true), V n = none) ∧ y.oneCell' = true ∧ ∀ g, HBok g V w x' (.row ty sz rows true) := by
 obtain ⟨h0, ys, Ss, h1, h3⟩ := h
 rcases h3 with ⟨⟨ao, rfl⟩, rfl, rfl⟩ | ⟨b, cap, c, rfl, e3, e4, e5, e6, e7, e8, rfl⟩
 ·refine ⟨⟨none, .slice ao 0 0, [], hd⟩, rfl, rfl, rfl, rfl, fun n hn => by simp [rootB] at hn, rfl, fun g => ⟨by simp, [], [], LayL.nil V, fun _ => rfl, .inl ⟨rfl, ⟨ao, rfl⟩, rfl⟩⟩⟩
 ·refine ⟨⟨some b, .slice (some ⟨b, 0, none⟩) rows.length cap, Ss.flatten, hd⟩, rfl, rfl, rfl, by simp [ownB], fun n hn => ?_, rfl, fun g => ⟨h0, ys, Ss, h1, fun _ => rfl, .inr ⟨b, cap, c, rfl, rfl, e3, e4, e5, e6, e7⟩⟩⟩
  simp [rootB] at hn; subst hn; exact e8
theorem Rel.turnRow (hr : Rel C g V st a w) (id : Nat) {b b' : HB} {x x' : Gh} (h1 : st.h[id]? = some b) (h2 : g[id]? = some x) {w' : World} (e1 : x'.blk = x.blk) (e2 : x'.val = x.val) (e3 : x'.hd = x.hd)
    (hb : ∀ g', HBok g' V w' x' b') (hnd : (ownB x' b').Nodup)
    (hfree : ∀ n ∈ ownB x' b', n ∈ ownB x b ∨ (w.heap.size ≤ n ∧ n < w'.heap.size))
    (hroot : ∀ n ∈ rootB x' b', V n = none) (hg : w.grownBy w' x.blk) (hbl : ∀ n, x.blk = some n → n ∈ rootB x b) :
    Rel C (g.set id x') V ⟨st.t, st.h.set id b'⟩ a w' := by
 have hle : GLe g (g.set id x') := fun i z hz => by
  by_cases e : id = i
  ·subst e
   rw [h2] at hz; cases hz
   exact ⟨x', by rw [List.getElem?_set]; simp [(List.getElem?_eq_some_iff.1 h2).1], e1, e2, e3⟩
  ·exact ⟨z, by rw [List.getElem?_set, if_neg e]; exact hz, rfl, rfl, rfl⟩
 have key : ∀ (i : Nat) (c : HB) (y : Gh), (st.h.set id b')[i]? = some c → (g.set id x')[i]? = some y → (i ≠ id ∧ st.h[i]? = some c ∧ g[i]? = some y) ∨ (i = id ∧ c = b' ∧ y = x') := by
  intro i c y q1 q2
  rw [List.getElem?_set] at q1 q2
  by_cases e : id = i
  ·subst e
   simp only [if_true] at q1 q2
   split at q1
   ·split at q2
    ·cases q1; cases q2; exact .inr ⟨rfl, rfl, rfl⟩
    ·cases q2
   ·cases q1
  ·rw [if_neg e] at q1 q2
   exact .inl ⟨fun h => e h.symm, q1, q2⟩
 have hX : ∀ n, x.blk = some n → n ∈ ownB x b := fun n hn => rootB_own (hbl n hn)
 refine ⟨hr.sl.mono hle (View.le.refl V), ⟨by simp [hr.hp.glen], ?_, ?_, ?_, ?_, ?_⟩, ?_, ?_, hr.vw.move fun n cs hn => hg.block n (hr.mod.lt hn) fun e => by
     have := hr.hp.rt id b x h1 h2 n (hbl n e.symm)
     rw [hn] at this; cases this⟩
 ·intro i c y q1 q2
  rcases key i c y q1 q2 with ⟨hi, p1, p2⟩ | ⟨_, rfl, rfl⟩
  ·exact (hr.hp.hb i c y p1 p2).mono hle (View.le.refl V) fun n hn => hg.block n (hr.hp.lo i c y p1 p2 n (rootB_own hn)).2 fun e => hr.hp.dj i id c b y x hi p1 p2 h1 h2 n (rootB_own hn) (hX n e.symm)
  ·exact hb _
 ·intro i c y q1 q2
  rcases key i c y q1 q2 with ⟨hi, p1, p2⟩ | ⟨_, rfl, rfl⟩
  ·exact hr.hp.nd i c y p1 p2
  ·exact hnd
 ·intro i j c c' y y' hij q1 q2 q3 q4 n hn hn'
  rcases key i c y q1 q2 with ⟨hi, p1, p2⟩ | ⟨rfl, rfl, rfl⟩
  ·rcases key j c' y' q3 q4 with ⟨hj, p3, p4⟩ | ⟨rfl, rfl, rfl⟩
   ·exact hr.hp.dj i j c c' y y' hij p1 p2 p3 p4 n hn hn'
   ·rcases hfree n hn' with h | h
    ·exact hr.hp.dj i j c b y x hi p1 p2 h1 h2 n hn h
    ·have := (hr.hp.lo i c y p1 p2 n hn).2; omega
  ·rcases key j c' y' q3 q4 with ⟨hj, p3, p4⟩ | ⟨rfl, _, _⟩
   ·rcases hfree n hn with h | h
    ·exact hr.hp.dj j i c' b y' x hj p3 p4 h1 h2 n hn' h
    ·have := (hr.hp.lo j c' y' p3 p4 n hn').2; omega
   ·exact hij rfl
 ·intro i c y q1 q2 n hn
  rcases key i c y q1 q2 with ⟨hi, p1, p2⟩ | ⟨_, rfl, rfl⟩
  ·exact ⟨(hr.hp.lo i c y p1 p2 n hn).1, Nat.lt_of_lt_of_le (hr.hp.lo i c y p1 p2 n hn).2 hg.size⟩
  ·rcases hfree n hn with h | h
   ·exact ⟨(hr.hp.lo id b x h1 h2 n h).1, Nat.lt_of_lt_of_le (hr.hp.lo id b x h1 h2 n h).2 hg.size⟩
   ·exact ⟨.inl (Nat.le_trans hr.fr.size h.1), h.2⟩
 ·intro i c y q1 q2 n hn
  rcases key i c y q1 q2 with ⟨hi, p1, p2⟩ | ⟨_, rfl, rfl⟩
  ·exact hr.hp.rt i c y p1 p2 n hn
  ·exact hroot n hn
 ·intro n cs hn
  obtain ⟨c, ty, fz, f1, f2⟩ := hr.mod n cs hn
  exact ⟨c, ty, fz, by rw [hg.block n (Array.getElem?_eq_some_iff.1 f1).1 fun e => by
   have := hr.hp.rt id b x h1 h2 n (hbl n e.symm)
   rw [hn] at this; cases this]; exact f1, f2⟩
 ·exact ⟨hg.os.trans hr.fr.os, hg.tape.trans hr.fr.tape, hg.output.trans hr.fr.output, Nat.le_trans hr.fr.size hg.size, fun n hn hX' => by
   rw [hg.block n (Nat.lt_of_lt_of_le hn hr.fr.size) fun e => by
    rcases (hr.hp.lo id b x h1 h2 n (hX n e.symm)).1 with h | h
    ·omega
    ·exact hX' h]
   exact hr.fr.block n hn hX'⟩
end
theorem CallS.give {E : Env} {f ty sz id : Nat} {rows rows' : List (List D)} {args' rest : List SV} {inp : Bool} {st : St} {K : St → SV → Prop} (h : FnI E.P f ty sz rows args' inp rows')
    (hid : nthH (frzH st.h (idsS rest)) id = .row ty sz rows true) (he : rest.map (pureS (frzH st.h (idsS rest))) = args') (hfree : args'.all freeS = true)
    (k : if inp then K ⟨st.t, setH (frzH st.h (idsS rest)) id (.row ty sz rows' true)⟩ (.t []) else K ⟨st.t.map (killS id), setH ((frzH st.h (idsS rest)).map (killB id)) id (.row ty sz rows' true)⟩ (.o (.s id))) :
    CallS E f (.o (.s id) :: rest) st K := by
 refine ⟨h.enters, fun g V a w vs hr hlen hargs => ?_⟩
 obtain ⟨g1, V1, hr1, hg1, hv1, _⟩ := frzH_ok (idsS rest) hr
 have hi := nthH_some hid (by simp)
 match vs, hlen, hargs with
 | y :: vs, hlen, hargs =>
  obtain ⟨x, hx, rfl, hone⟩ := (hargs 0 _ y rfl rfl).mono hg1 hv1
  have hok := hr1.hp.hb id _ x hi hx
  have hrow := row_RowR hok (hr1.hp.rt id _ x hi hx)
  have hhead := head_blk hok
  have hc : cArgs V1 args' vs := by
   subst he
   refine ⟨by simpa using hlen, fun i s y h1 h2 => ?_⟩
   have hs := List.all_eq_true.1 hfree s (List.mem_of_getElem? h1)
   rw [List.getElem?_map] at h1
   cases hk : rest[i]? with
   | none => rw [hk] at h1; cases h1
   | some s0 =>
    rw [hk] at h1
    cases h1
    exact freeS_ok (pureS_ok hr1 ((hargs (i + 1) s0 y (by simpa using hk) (by simpa using h2)).mono hg1 hv1)) hs
  refine (h.calls V1 w x.val _ vs hr1.mod hrow (hr1.hp.nd id _ x hi hx) (fun b hb => (hr1.hp.lo id _ x hi hx b hb).2) hc).mono ?_
  rintro e w' ⟨y', rfl, hy', hgrown, S', hrow', hnd', hsub', hhd'⟩
  rw [hhead] at hgrown
  obtain ⟨x', e1, e2, e4, e3, e5, e6, e7⟩ := RowR_row hrow' x.hd
  have hbl : ∀ n, x.blk = some n → n ∈ rootB x (.row ty sz rows true) := fun n hn => by simp [rootB, hn]
  cases inp with
  | false =>
   simp only [Bool.false_eq_true, if_false] at k ⊢
   refine ⟨_, g1.set id x', V1, _, _, rfl, hr1.renew id hi hx (e7 _) (by rw [e3]; exact hnd') (fun n hn => ?_) e5 hgrown hbl, ?_, by rw [setH_eq] at k; exact k⟩
   ·rw [e3] at hn
    rcases hsub' n hn with h' | h'
    ·exact ⟨.inl h', (hr1.hp.lo id _ x hi hx n h').1, Nat.lt_of_lt_of_le (hr1.hp.lo id _ x hi hx n h').2 hgrown.size⟩
    ·exact ⟨.inr (.inl h'.1), .inl (Nat.le_trans hr1.fr.size h'.1), h'.2⟩
   ·exact ⟨x', by rw [List.getElem?_set]; simp [(List.getElem?_eq_some_iff.1 hx).1], e1.symm, e6⟩
  | true =>
   simp only [if_true] at k ⊢
   refine ⟨_, g1.set id x', V1, _, _, rfl, hr1.turnRow id hi hx (by rw [e4, hhd' rfl, hhead]) (by rw [e1, hy' rfl]) e2 e7 (by rw [e3]; exact hnd') (fun n hn => ?_) e5 hgrown hbl, ?_, by rw [setH_eq] at k; exact k⟩
   ·rw [e3] at hn
    exact hsub' n hn
   ·exact ⟨[], rfl, rfl, fun k b cs v h => by simp at h⟩
end Go.Sx
end
section
set_option linter.all false
namespace Go.Sx
open Go Go.RowKit
structure FnJ (P : Program) (f ty sz : Nat) (rows : List (List D)) (i : Int) (rows2 rows' : List (List D)) : Prop where
 enters : ∀ as w, (callFunc f as).run P w = .ok (.enter f as) w
 calls : ∀ V w y S y2 S2, Mod V w → RowR V w ty sz rows y S → RowR V w ty sz rows2 y2 S2 → (S ++ S2).Nodup → (∀ b ∈ S ++ S2, b < w.heap.size) →
  Calls P f #[y, .int .i64 i, y2] w fun e w' => ∃ y', e = .returned y' ∧ w.grownBy w' S.head? ∧ ∃ S', RowR V w' ty sz rows' y' S' ∧ S'.Nodup ∧ ∀ b ∈ S', b ∈ S ∨ b ∈ S2 ∨ (w.heap.size ≤ b ∧ b < w'.heap.size)
end Go.Sx
end
section
set_option linter.all false
namespace Go.Sx
open Go Go.RowKit
def isD0 : At → Bool
 | .d _ => true
 | .z => true
 | _ => false
def tagC : List At → Option (Nat × Nat × List (List D))
 | [] => none
 | a :: r => match a with
  | .w ty k rows => if r.all isD0 && decide (k ≠ 0) then some (ty, k, rows) else none
  | .d _ => tagC r
  | .z => tagC r
  | _ => none
def tagW : SV → Option (Nat × Nat × List (List D))
 | .o (.w ty k rows) => some (ty, k, rows)
 | .g cs => tagC cs
 | _ => none
def isSm : Option (Nat × Nat × List (List D)) → Bool
 | some _ => true
 | none => false
def tagS (s : SV) : Bool := isSm (tagW s)
def putW (id : Nat) : List At → List At
 | [] => []
 | a :: r => match a with
  | .w _ _ _ => .s id :: r
  | a => a :: putW id r
def tagV (s : SV) (id : Nat) : SV := match s with
 | .o (.w _ k _) => if k = 0 then .o (.p id 0) else .o (.s id)
 | .g cs => .g (putW id cs)
 | s => s
def tagB (E : Env) (ty k : Nat) (rows : List (List D)) : HB := if k = 0 then .box ty (E.T ty).zero else .row ty ((k - 1) / 2) rows (k % 2 == 1)
def liftC : List At → List At
 | [] => []
 | a :: r => match a with
  | .w ty sz rows => .w ty (2 * sz + 1) rows :: r
  | a => a :: liftC r
def liftS : SV → SV
 | .o (.w ty sz rows) => .o (.w ty (2 * sz + 1) rows)
 | .g cs => .g (liftC cs)
 | s => s
theorem tagC_cons {a : At} {r : List At} {x : Nat × Nat × List (List D)} (h : tagC (a :: r) = some x) : (∃ ty k rows, a = .w ty k rows ∧ r.all isD0 = true ∧ k ≠ 0 ∧ x = (ty, k, rows)) ∨ (isD0 a = true ∧ tagC r = some x ∧ (∀ id, putW id (a :: r) = a :: putW id r) ∧ liftC (a :: r) = a :: liftC r) := by
 cases a with
 | w ty k rows =>
  simp only [tagC] at h
  split at h
  ·rename_i hc
   simp only [Bool.and_eq_true, decide_eq_true_eq] at hc
   exact .inl ⟨ty, k, rows, rfl, hc.1, hc.2, (Option.some.inj h).symm⟩
  ·cases h
 | d v => exact .inr ⟨rfl, h, fun _ => rfl, rfl⟩
 | z => exact .inr ⟨rfl, h, fun _ => rfl, rfl⟩
 | _ => simp [tagC] at h
theorem tagC_mem : ∀ {cs : List At} {ty k : Nat} {rows : List (List D)}, tagC cs = some (ty, k, rows) → k ≠ 0 ∧ ∃ i : Nat, cs[i]? = some (At.w ty k rows)
 | [], _, _, _, h => by cases h
 | a :: r, ty, k, rows, h => by
  rcases tagC_cons h with ⟨ty', k', rows', rfl, h1, h2, h3⟩ | ⟨_, h2, _, _⟩
  ·cases h3; exact ⟨h2, 0, rfl⟩
  ·obtain ⟨h3, i, h4⟩ := tagC_mem h2; exact ⟨h3, i + 1, by simpa using h4⟩
theorem putW_get : ∀ {cs : List At} {x : Nat × Nat × List (List D)}, tagC cs = some x → ∀ (n j : Nat) (c : At), (putW n cs)[j]? = some c → (isD0 c = true ∧ ∀ n', (putW n' cs)[j]? = some c) ∨ (c = .s n ∧ ∀ n', (putW n' cs)[j]? = some (.s n'))
 | [], _, h, _, _, _, _ => by cases h
 | a :: r, x, h, n, j, c, hc => by
  rcases tagC_cons h with ⟨ty', k', rows', rfl, h1, h2, h3⟩ | ⟨h1, h2, h3, _⟩
  ·cases j with
   | zero => simp only [putW, List.getElem?_cons_zero, Option.some.injEq] at hc; exact .inr ⟨hc.symm, fun _ => rfl⟩
   | succ j =>
    simp only [putW, List.getElem?_cons_succ] at hc
    exact .inl ⟨List.all_eq_true.1 h1 c (List.mem_of_getElem? hc), fun _ => by simpa [putW] using hc⟩
  ·rw [h3] at hc
   cases j with
   | zero => simp only [List.getElem?_cons_zero, Option.some.injEq] at hc; subst hc; exact .inl ⟨h1, fun n' => by rw [h3]; rfl⟩
   | succ j =>
    simp only [List.getElem?_cons_succ] at hc
    rcases putW_get h2 n j c hc with ⟨q1, q2⟩ | ⟨q1, q2⟩
    ·exact .inl ⟨q1, fun n' => by rw [h3]; simpa using q2 n'⟩
    ·exact .inr ⟨q1, fun n' => by rw [h3]; simpa using q2 n'⟩
theorem putW_len (n : Nat) : ∀ cs : List At, (putW n cs).length = cs.length
 | [] => rfl
 | a :: r => by cases a <;> simp [putW, putW_len n r]
theorem tagC_lift : ∀ {cs : List At} {ty k : Nat} {rows : List (List D)}, tagC cs = some (ty, k, rows) → tagC (liftC cs) = some (ty, 2 * k + 1, rows)
 | [], _, _, _, h => by cases h
 | a :: r, ty, k, rows, h => by
  rcases tagC_cons h with ⟨ty', k', rows', rfl, h1, h2, h3⟩ | ⟨h1, h2, _, h4⟩
  ·cases h3; simp [liftC, tagC, h1]
  ·rw [h4]
   have := tagC_lift h2
   cases a <;> first | exact this | cases h1
theorem tagW_lift {s : SV} {ty k : Nat} {rows : List (List D)} (h : tagW s = some (ty, k, rows)) : tagW (liftS s) = some (ty, 2 * k + 1, rows) := by
 cases s with
 | o a => cases a <;> simp only [tagW] at h <;> first | (cases h; rfl) | cases h
 | g cs => exact tagC_lift h
 | t l => cases h
theorem tagS_of {s : SV} {x : Nat × Nat × List (List D)} (h : tagW s = some x) : tagS s = true := by unfold tagS; rw [h]; rfl
def slotO : Operand → Option Nat
 | .tmp t => some t
 | _ => none
def slotsO : List Operand → List Nat
 | [] => []
 | .tmp t :: r => t :: slotsO r
 | _ :: r => slotsO r
theorem mem_slotsO {d : Nat} : ∀ {l : List Operand}, d ∈ slotsO l ↔ .tmp d ∈ l
 | [] => by simp [slotsO]
 | x :: r => by
  cases x with
  | tmp t =>
   simp only [slotsO, List.mem_cons, mem_slotsO (l := r)]
   constructor
   ·rintro (rfl | h)
    ·exact .inl rfl
    ·exact .inr h
   ·rintro (h | h)
    ·cases h; exact .inl rfl
    ·exact .inr h
  | _ => simp [slotsO, mem_slotsO (l := r)]
def opL : Op → List Operand
 | .move x | .assign x | .load _ x | .unOp _ _ x | .convert _ _ x | .fieldAddr _ x _ | .field _ x _ | .extract x _ => [x]
 | .pick c a b => [c, a, b]
 | .binOp _ _ a v _ | .indexAddr _ a v | .index _ a v | .store _ a v => [a, v]
 | .buildSlice _ _ ps | .build _ ps => ps.toList.map (·.2)
 | .slice _ x lo hi none => x :: (lo.toList ++ hi.toList)
 | .alloc _ => []
 | .call c => match c.callee with
  | .value f => f :: c.args.toList
  | .builtin _ => c.args.toList
  | _ => c.operands.toList
 | op => op.operands.toList
theorem opL_eq (op : Op) : opL op = op.operands.toList := by
 unfold opL Op.operands
 split <;> first
  | rfl
  | (rename_i c; unfold Call.operands; cases hc : c.callee <;> simp [hc, Call.operands])
  | simp
def useL (op : Op) : List Operand :=
 match op with
 | .call c => match c.callee with
  | .builtin .len => []
  | _ => opL (.call c)
 | op => opL op
def usesL : List Oper → List Nat
 | [] => []
 | o :: r => slotsO (useL o.op) ++ usesL r
def cntN (d : Nat) : List Nat → Nat
 | [] => 0
 | x :: l => if x = d then cntN d l + 1 else cntN d l
theorem cntN_app (d : Nat) : ∀ l m : List Nat, cntN d (l ++ m) = cntN d l + cntN d m
 | [], m => by simp [cntN]
 | x :: l, m => by
  simp only [List.cons_append, cntN, cntN_app d l m]
  split <;> omega
theorem cntN_pos {d : Nat} : ∀ {l : List Nat}, d ∈ l → 1 ≤ cntN d l
 | [], h => by simp at h
 | x :: l, h => by
  simp only [cntN]
  split
  ·omega
  ·rename_i hne
   rcases List.mem_cons.1 h with e | h
   ·exact (hne e.symm).elim
   ·exact cntN_pos h
def takes (all : List Oper) (d j : Nat) : Prop := ∃ o, all[j]? = some o ∧ .tmp d ∈ useL o.op
theorem takes_pos {all : List Oper} {d j : Nat} (h : takes all d j) : 1 ≤ cntN d (usesL all) := by
 obtain ⟨o, h1, h2⟩ := h
 induction all generalizing j with
 | nil => simp at h1
 | cons x r ih =>
  simp only [usesL, cntN_app]
  cases j with
  | zero =>
   simp at h1; subst h1
   have : 1 ≤ cntN d (slotsO (useL x.op)) := cntN_pos (mem_slotsO.2 h2)
   omega
  | succ j => have := ih (by simpa using h1); omega
theorem takes_one {all : List Oper} {d i j : Nat} (hc : cntN d (usesL all) ≤ 1) (hi : takes all d i) (hj : takes all d j) : i = j := by
 induction all generalizing i j with
 | nil => obtain ⟨o, h, _⟩ := hi; simp at h
 | cons x r ih =>
  simp only [usesL, cntN_app] at hc
  have up : ∀ {n}, takes (x :: r) d (n + 1) → takes r d n := fun h => by obtain ⟨o, h1, h2⟩ := h; exact ⟨o, by simpa using h1, h2⟩
  have z : takes (x :: r) d 0 → 1 ≤ cntN d (slotsO (useL x.op)) := fun h => by
   obtain ⟨o, h1, h2⟩ := h
   simp at h1; subst h1
   exact cntN_pos (mem_slotsO.2 h2)
  cases i with
  | zero => cases j with
   | zero => rfl
   | succ j => have := z hi; have := takes_pos (up hj); omega
  | succ i => cases j with
   | zero => have := z hj; have := takes_pos (up hi); omega
   | succ j => rw [ih (by omega) (up hi) (up hj)]
def cellV : At → Option D
 | .d (.v x) => some (.v x)
 | .z => some (.sl [])
 | _ => none
def cellsV : List At → Option (List D)
 | [] => some []
 | a :: r => (cellV a).bind fun d => (cellsV r).map (d :: ·)
def valV : SV → Option (List D)
 | .o a => cellsV [a]
 | .g cs => cellsV cs
 | .t _ => none
def partsV (ρ : Operand → SV) : Nat → List (Nat × Operand) → Option (List (List D))
 | _, [] => some []
 | n, (i, x) :: r => if i = n then (valV (ρ x)).bind fun ds => (partsV ρ (n + 1) r).map (ds :: ·) else none
def rowsV : SV → Option (List (List D) × Bool)
 | .o (.d (.sl rows)) => some (rows, flatB rows)
 | .o .z => some ([], true)
 | .o (.w _ k rows) => if k = 0 then none else some (rows, k % 2 == 1)
 | _ => none
structure CallX (E : Env) (f : Nat) (args : List SV) (h : List HB) (k : SV → Prop) (t : Tie k) : Prop where
 out : CallD E f args h k t ∨ ∃ args' res, FnC E.P f args' res ∧ args.map (pureS h) = args' ∧ args'.all freeS = true ∧ tagS res = true ∧ k (liftS res)
def vcX (E : Env) (us : List Nat) (op : Op) (ρ : Operand → SV) (h : List HB) (k : SV → Prop) : Prop :=
 match op with
 | .move x => k (ρ x)
 | .assign x => k (ρ x)
 | .buildSlice t len parts => (E.T t).tag = 2 ∧ (E.T (E.T t).elem).tag ≠ 0 ∧ len = parts.toList.length ∧ len * (E.T (E.T t).elem).size ≤ 16777216 ∧ (match partsV ρ 0 parts.toList with
  | some rows => uni (E.T (E.T t).elem).size rows ∧ k (.o (.w (E.T t).elem (2 * (E.T (E.T t).elem).size + 1) rows))
  | none => False)
 | .alloc t => (E.T t).tag ≠ 0 ∧ (E.T t).zero.all isD0 = true ∧ k (.o (.w t 0 []))
 | .call c => match c.callee with
  | .builtin .append => (match c.args.toList, c.argTypes.toList with
   | [s, x], [t, t'] => t = t' ∧ (E.T t).tag = 2 ∧ (E.T (E.T t).elem).tag ≠ 0 ∧ (match ρ s with
    | .o (.w ty kk rows) => (match rowsV (ρ x) with
     | some (rows2, lin2) => kk ≠ 0 ∧ ty = (E.T t).elem ∧ (kk - 1) / 2 = (E.T (E.T t).elem).size ∧ uni (E.T (E.T t).elem).size rows2 ∧ rows.length + rows2.length ≤ maxLen ∧ (rows.length + rows2.length) * (E.T (E.T t).elem).bytes ≤ 140737488355328 ∧
      k (.o (.w ty (2 * (E.T (E.T t).elem).size + (if (kk % 2 == 1) && lin2 then 1 else 2)) (rows ++ rows2)))
     | none => False)
    | _ => False)
   | _, _ => False)
  | .value f => (slotsO (opL op)).all (fun d => !tagS (ρ (.tmp d))) = true ∧ (match ρ f with
   | .o (.f fn caps) => (c.args.toList.map ρ).all (·.below h.length) = true ∧ CallX E fn (c.args.toList.map ρ ++ caps.map (fun cs => .o (.q cs))) h k ⟨⟩
   | _ => False)
  | .builtin .len => (match c.args.toList, c.argTypes.toList with
   | [.tmp d], [t] => if tagS (ρ (.tmp d)) then cntN d us = 0 ∧ (E.T t).tag = 2 ∧ (match ρ (.tmp d) with
       | .o (.w _ kk rows) => kk ≠ 0 ∧ k (oi rows.length)
       | _ => False) else (ρ (.tmp d)).below h.length = true ∧ vcD E op ρ h k
   | _, _ => False)
  | _ => (slotsO (opL op)).all (fun d => !tagS (ρ (.tmp d)) && (ρ (.tmp d)).below h.length) = true ∧ vcD E op ρ h k
 | op => (slotsO (opL op)).all (fun d => !tagS (ρ (.tmp d)) && (ρ (.tmp d)).below h.length) = true ∧ vcD E op ρ h k
def chkX (all : List Oper) (o : Oper) (n0 : Nat) (s : SV) : Prop :=
 if tagS s then (match o.dst with | some d => decide (cntN d (usesL all) ≤ 1) = true | none => False) else s.below n0 = true
def sopX (E : Env) (all : List Oper) (o : Oper) (st : St) (K : St → Prop) : Prop :=
 match o.guard with
 | none => vcX E (usesL all) o.op (ev st) st.h fun s => chkX all o st.h.length s ∧ K (st.put o.dst s)
 | some (j, b) => vcGuard (dstOf all j st) b ((slotsO (opL o.op)).all (fun d => !tagS (nth st.t d) && (nth st.t d).below st.h.length) = true ∧ vcD E o.op (ev st) st.h fun s => (tagS s = false ∧ s.below st.h.length = true) ∧ K (st.put o.dst s)) (K (st.put o.dst (.t []))) ⟨⟩ ⟨⟩
def vcXs (E : Env) (all : List Oper) : List Oper → St → (St → Prop) → Prop
 | [], st, K => K st
 | o :: r, st, K => sopX E all o st fun st' => vcXs E all r st' K
section
variable {E : Env}
theorem vcX_det {us : List Nat} {op : Op} {ρ : Operand → SV} {hh : List HB} {k : SV → Prop} (h : vcX E us op ρ hh k) : ∃ s, k s ∧ ∀ k' : SV → Prop, k' s → vcX E us op ρ hh k' := by
 unfold vcX at h ⊢
 split at h
 ·exact ⟨_, h, fun k' h => h⟩
 ·exact ⟨_, h, fun k' h => h⟩
 ·obtain ⟨h1, h2, h3, h4, h⟩ := h
  split at h
  ·exact ⟨_, h.2, fun k' hk => ⟨h1, h2, h3, h4, h.1, hk⟩⟩
  ·exact h.elim
 ·exact ⟨_, h.2.2, fun k' hk => ⟨h.1, h.2.1, hk⟩⟩
 ·rename_i c
  split at h
  ·rename_i hc
   split at h
   ·obtain ⟨h1, h2, h3, h⟩ := h
    split at h
    ·split at h
     ·obtain ⟨a1, a2, a3, a4, a5, a6, a7⟩ := h
      exact ⟨_, a7, fun k' hk => ⟨h1, h2, h3, a1, a2, a3, a4, a5, a6, hk⟩⟩
     ·exact h.elim
    ·exact h.elim
   ·exact h.elim
  ·rename_i f hc
   obtain ⟨h1, h⟩ := h
   split at h
   ·obtain ⟨h2, ⟨h⟩⟩ := h
    rcases h with ⟨⟨args', res, c1, c2, c3, c4, c5⟩ | ⟨args', ty, sz, rows, c1, c2, c3, c4, c5⟩⟩ | ⟨args', res, c1, c2, c3, c4, c5⟩
    ·exact ⟨res, c5, fun k' hk => ⟨h1, h2, ⟨.inl ⟨.inl ⟨args', res, c1, c2, c3, c4, hk⟩⟩⟩⟩⟩
    ·exact ⟨_, c5, fun k' hk => ⟨h1, h2, ⟨.inl ⟨.inr ⟨args', ty, sz, rows, c1, c2, c3, c4, hk⟩⟩⟩⟩⟩
    ·exact ⟨_, c5, fun k' hk => ⟨h1, h2, ⟨.inr ⟨args', res, c1, c2, c3, c4, hk⟩⟩⟩⟩
   ·exact h.elim
  ·rename_i hc
   split at h
   ·rename_i d t e1 e2
    split at h
    ·rename_i ht
     obtain ⟨h1, h2, h⟩ := h
     obtain ⟨ty, kk, rows, e⟩ : ∃ ty kk rows, ρ (.tmp d) = .o (.w ty kk rows) := by
      revert h
      split
      ·rename_i ty kk rows e; exact fun _ => ⟨_, _, _, e⟩
      ·intro h; exact h.elim
     rw [e] at h
     simp only [ht, if_true, e]
     exact ⟨_, h.2, fun k' hk => ⟨h1, h2, h.1, hk⟩⟩
    ·rename_i ht
     obtain ⟨s, k1, k2⟩ := vcD_det h.2
     exact ⟨s, k1, fun k' hk => by rw [if_neg ht]; exact ⟨h.1, k2 k' hk⟩⟩
   ·exact h.elim
  ·obtain ⟨s, k1, k2⟩ := vcD_det h.2
   exact ⟨s, k1, fun k' hk => ⟨h.1, k2 k' hk⟩⟩
 ·obtain ⟨s, k1, k2⟩ := vcD_det h.2
  exact ⟨s, k1, fun k' hk => ⟨h.1, k2 k' hk⟩⟩
theorem slots_congr {op : Op} {ρ ρ' : Operand → SV} {f : SV → Bool} (he : ∀ x ∈ op.operands, ρ x = ρ' x) (h : (slotsO (opL op)).all (fun d => f (ρ (.tmp d))) = true) : (slotsO (opL op)).all (fun d => f (ρ' (.tmp d))) = true := by
 rw [List.all_eq_true] at h ⊢
 intro d hd
 have hm := mem_slotsO.1 hd
 rw [opL_eq] at hm
 have := h d hd
 rwa [he (.tmp d) (by simpa using hm)] at this
theorem partsV_congr {ρ ρ' : Operand → SV} : ∀ {l : List (Nat × Operand)} {n : Nat}, (∀ p ∈ l, ρ p.2 = ρ' p.2) → partsV ρ n l = partsV ρ' n l
 | [], n, _ => rfl
 | (i, x) :: r, n, h => by
  have h1 : ρ x = ρ' x := h (i, x) (by simp)
  simp only [partsV, h1, partsV_congr (l := r) (n := n + 1) fun p hp => h p (by simp [hp])]
theorem vcX_congr {us : List Nat} {op : Op} {ρ ρ' : Operand → SV} {hh : List HB} {k : SV → Prop} (he : ∀ x ∈ op.operands, ρ x = ρ' x) (h : vcX E us op ρ hh k) : vcX E us op ρ' hh k := by
 unfold vcX at h ⊢
 split at h
 ·simp only [Op.operands] at he
  rw [← he _ (by simp)]; exact h
 ·simp only [Op.operands] at he
  rw [← he _ (by simp)]; exact h
 ·rename_i t len parts
  rw [← partsV_congr (ρ := ρ) fun p hp => he p.2 (by simp only [Op.operands]; simp only [List.mem_toArray, List.mem_map]; exact ⟨p, hp, rfl⟩)]
  exact h
 ·exact h
 ·rename_i c
  have hargs : c.args.toList.map ρ = c.args.toList.map ρ' := List.map_congr_left fun x hx => he x (by simp only [Op.operands, Call.operands, Array.mem_append]; exact .inr (by simpa using hx))
  split at h
  ·rename_i hc
   split at h
   ·rename_i s x t t' e1 e2
    have hs : ρ s = ρ' s := he s (by simp only [Op.operands, Call.operands, Array.mem_append]; exact .inr (by rw [← Array.mem_toList_iff, e1]; simp))
    have hx : ρ x = ρ' x := he x (by simp only [Op.operands, Call.operands, Array.mem_append]; exact .inr (by rw [← Array.mem_toList_iff, e1]; simp))
    rw [← hs, ← hx]; exact h
   ·exact h.elim
  ·rename_i f hc
   have hf : ρ f = ρ' f := he f (by simp only [Op.operands, Call.operands, hc, Array.mem_append]; exact .inl (by simp))
   refine ⟨slots_congr (f := fun s => !tagS s) he h.1, ?_⟩
   rw [← hf, ← hargs]; exact h.2
  ·rename_i hc
   split at h
   ·rename_i d t e1 e2
    have hx : ρ (.tmp d) = ρ' (.tmp d) := he (.tmp d) (by simp only [Op.operands, Call.operands, Array.mem_append]; exact .inr (by rw [← Array.mem_toList_iff, e1]; simp))
    rw [← hx]
    split at h
    ·rename_i ht
     rw [if_pos ht]; exact h
    ·rename_i ht
     rw [if_neg ht]; exact ⟨h.1, vcD_congr he h.2⟩
   ·exact h.elim
  ·exact ⟨slots_congr (f := fun s => !tagS s && s.below hh.length) he h.1, vcD_congr he h.2⟩
 ·exact ⟨slots_congr (f := fun s => !tagS s && s.below hh.length) he h.1, vcD_congr he h.2⟩
theorem sopX_det {all : List Oper} {o : Oper} {st : St} {K : St → Prop} (h : sopX E all o st K) : ∃ s, K (st.put o.dst s) ∧ ∀ K' : St → Prop, K' (st.put o.dst s) → sopX E all o st K' := by
 unfold sopX at h ⊢
 split at h
 ·rename_i hg
  obtain ⟨s, h1, h2⟩ := vcX_det h
  exact ⟨s, h1.2, fun K' hk => h2 (fun s => chkX all o st.h.length s ∧ K' (st.put o.dst s)) ⟨h1.1, hk⟩⟩
 ·rename_i j b hg
  unfold vcGuard at h ⊢
  split at h
  ·rename_i c e
   by_cases hcb : c = b
   ·obtain ⟨h0, h⟩ := h.1 hcb
    obtain ⟨s, h1, h2⟩ := vcD_det h
    exact ⟨s, h1.2, fun K' hk => ⟨fun _ => ⟨h0, h2 (fun s => (tagS s = false ∧ s.below st.h.length = true) ∧ K' (st.put o.dst s)) ⟨h1.1, hk⟩⟩, fun hn => (bnot2 hcb hn).elim⟩⟩
   ·exact ⟨_, h.2 (bnot hcb), fun K' hk => ⟨fun e => (hcb e).elim, fun _ => hk⟩⟩
  ·exact ⟨_, h, fun K' hk => hk⟩
  ·exact h.elim
theorem sopX_put {all : List Oper} {oi oj : Oper} {v : SV} {st : St} (hap : oi.apart all.toArray oj = true) {K : St → Prop} (h : sopX E all oj (st.put oi.dst v) K) :
    ∃ u, K ((st.put oj.dst u).put oi.dst v) ∧ ∀ K' : St → Prop, K' (st.put oj.dst u) → sopX E all oj st K' := by
 obtain ⟨h1, h2, h3⟩ := Oper.apart_spec hap
 have he : ∀ x ∈ oj.op.operands, ev (st.put oi.dst v) x = ev st x := fun x hx => ev_put fun e he hxe => by
  subst hxe
  exact h1 e he (List.mem_append_left _ (List.mem_filterMap.2 ⟨.tmp e, by simpa using hx, rfl⟩))
 unfold sopX at h ⊢
 split at h
 ·rename_i hg
  obtain ⟨u, k1, k2⟩ := vcX_det h
  refine ⟨u, by rw [← put_put st v u h2]; exact k1.2, fun K' hk => ?_⟩
  have := k2 (fun s => chkX all oj st.h.length s ∧ K' (st.put oj.dst s)) ⟨by rw [← h_put st oi.dst v]; exact k1.1, hk⟩
  rw [h_put] at this
  exact vcX_congr he this
 ·rename_i j b hg
  rw [dstOf_put hg h1] at h
  unfold vcGuard at h ⊢
  split at h
  ·rename_i c e
   by_cases hcb : c = b
   ·obtain ⟨h0, h⟩ := h.1 hcb
    obtain ⟨u, k1, k2⟩ := vcD_det h
    rw [h_put] at h0 k1
    refine ⟨u, by rw [← put_put st v u h2]; exact k1.2, fun K' hk => ⟨fun _ => ⟨?_, ?_⟩, fun hn => (bnot2 hcb hn).elim⟩⟩
    ·exact slots_congr (f := fun s => !tagS s && s.below st.h.length) (ρ := ev (st.put oi.dst v)) he h0
    ·have := k2 (fun s => (tagS s = false ∧ s.below st.h.length = true) ∧ K' (st.put oj.dst s)) ⟨k1.1, hk⟩
     rw [h_put] at this
     exact vcD_congr he this
   ·exact ⟨.t [], by rw [← put_put st v _ h2]; exact h.2 (bnot hcb), fun K' hk => ⟨fun e => (hcb e).elim, fun _ => hk⟩⟩
  ·exact ⟨.t [], by rw [← put_put st v _ h2]; exact h, fun K' hk => hk⟩
  ·exact h.elim
def YieldsX (E : Env) (all : List Oper) (o : Oper) (s : SV) (st : St) : Prop := ∀ K : St → Prop, K (st.put o.dst s) → sopX E all o st K
theorem YieldsX.keep {all : List Oper} {oi oj : Oper} {v u : SV} {st : St} (hap : oi.apart all.toArray oj = true) (h : YieldsX E all oi v st) : YieldsX E all oi v (st.put oj.dst u) := by
 obtain ⟨h1, h2, h3⟩ := Oper.apart_spec hap
 have he : ∀ x ∈ oi.op.operands, ev st x = ev (st.put oj.dst u) x := fun x hx => (ev_put fun e he hxe => by
  subst hxe
  exact h3 e he (List.mem_append_left _ (List.mem_filterMap.2 ⟨.tmp e, by simpa using hx, rfl⟩))).symm
 intro K hk
 have h0 := h (fun s => K (s.put oj.dst u)) (by rw [put_put st v u h2]; exact hk)
 have ef : ∀ p : SV → Prop, (fun s => p s ∧ K ((st.put oi.dst s).put oj.dst u)) = fun s => p s ∧ K ((st.put oj.dst u).put oi.dst s) := fun p => funext fun s => by rw [put_put st s u h2]
 unfold sopX at h0 ⊢
 split at h0
 ·rename_i hg
  simp only [h_put]
  have h0 := vcX_congr he h0
  rw [ef] at h0
  exact h0
 ·rename_i j b hg
  rw [dstOf_put hg h3]
  unfold vcGuard at h0 ⊢
  split at h0
  ·rename_i c e
   simp only [h_put]
   refine ⟨fun hc => ⟨slots_congr (f := fun s => !tagS s && s.below st.h.length) (ρ := ev st) he (h0.1 hc).1, ?_⟩, fun hc => by rw [← put_put st _ u h2]; exact h0.2 hc⟩
   have := vcD_congr he (h0.1 hc).2
   rw [ef] at this
   exact this
  ·rw [← put_put st _ u h2]; exact h0
  ·exact h0.elim
def wpAnyX (E : Env) (md : Region.Mode) (all : List Oper) (m : Nat) (K : St → Prop) : Nat → Array Bool → St → Prop
 | 0, listed, st => (∀ i ∈ Region.ready md all.toArray listed, m ≤ i) ∧ K st
 | fuel + 1, listed, st =>
  ((∀ i ∈ Region.ready md all.toArray listed, m ≤ i) → K st) ∧
  ∀ i ∈ Region.ready md all.toArray listed, i < m → ∀ o, all.toArray[i]? = some o → sopX E all o st (wpAnyX E md all m K fuel (listed.setIfInBounds i true))
theorem wpAnyX_first {md : Region.Mode} {all : List Oper} {m : Nat} {K : St → Prop} {i : Nat} {oi : Oper} {v : SV} (hi : all.toArray[i]? = some oi) (him : i < m) :
    ∀ (fuel : Nat) (listed : Array Bool) (st : St),
     (∀ j oj, all.toArray[j]? = some oj → j < m → j ≠ i → listed.getD j true = false → (∀ e ∈ oj.after, Region.binds md e = true → e.on ≠ i) → oi.apart all.toArray oj = true) →
     i ∈ Region.ready md all.toArray listed → YieldsX E all oi v st →
     wpAnyX E md all m K fuel (listed.setIfInBounds i true) (st.put oi.dst v) → wpAnyX E md all m K (fuel + 1) listed st := by
 intro fuel
 induction fuel with
 | zero =>
  intro listed st _ hr hy H
  refine ⟨fun h => (by have := h i hr; omega), fun j hj hjm o ho => ?_⟩
  by_cases hji : j = i
  ·subst hji; rw [hi] at ho; cases ho; exact hy _ H
  ·have := H.1 j (ready_mono hj hji)
   omega
 | succ fuel ih =>
  intro listed st hfree hr hy H
  refine ⟨fun h => (by have := h i hr; omega), fun j hj hjm oj hoj => ?_⟩
  by_cases hji : j = i
  ·subst hji; rw [hi] at hoj; cases hoj; exact hy _ H
  ·have h1 := H.2 j (ready_mono hj hji) hjm oj hoj
   obtain ⟨hjun, oj', hoj', hall⟩ := mem_ready.1 hj
   rw [hoj] at hoj'; cases hoj'
   have hnot : ∀ e ∈ oj.after, Region.binds md e = true → e.on ≠ i := fun e he hb heq => by
    have h1 := hall e he hb
    have h0 := (mem_ready.1 hr).1
    rw [heq] at h1
    rcases Nat.lt_or_ge i listed.size with h' | h'
    ·simp [h'] at h0 h1; rw [h0] at h1; cases h1
    ·simp [Array.getElem?_eq_none h'] at h1
   have hap := hfree j oj hoj hjm hji hjun hnot
   obtain ⟨u, k1, k2⟩ := sopX_put hap h1
   have hfree' : ∀ k ok, all.toArray[k]? = some ok → k < m → k ≠ i → (listed.setIfInBounds j true).getD k true = false →
       (∀ e ∈ ok.after, Region.binds md e = true → e.on ≠ i) → oi.apart all.toArray ok = true := fun k ok hk hkm hki hun hno => by
    refine hfree k ok hk hkm hki ?_ hno
    by_cases hjk : j = k
    ·subst hjk; exact hjun
    ·rw [getD_set_ne true hjk] at hun; exact hun
   refine k2 _ (ih (listed.setIfInBounds j true) _ hfree' (ready_mono hr (Ne.symm hji)) (hy.keep hap) ?_)
   rw [Array.setIfInBounds_comm _ _ hji]
   exact k1
def freeX (md : Region.Mode) (all : List Oper) (m : Nat) (listed : Array Bool) (i : Nat) : Bool :=
 match all[i]? with
 | none => false
 | some oi => (List.range m).all fun j => j == i || listed.getD j true || match all[j]? with
     | some oj => oj.after.any (fun e => Region.binds md e && e.on == i) || oi.apart all.toArray oj
     | none => true
def lexX (md : Region.Mode) (all : List Oper) (m : Nat) : Nat → Nat → Array Bool → Bool
 | 0, _, listed => (Region.ready md all.toArray listed).all fun i => decide (m ≤ i)
 | n + 1, k, listed => (Region.ready md all.toArray listed).contains k && freeX md all m listed k && decide (k < m) && lexX md all m n (k + 1) (listed.setIfInBounds k true)
theorem freeX_spec {md : Region.Mode} {all : List Oper} {m i : Nat} {oi : Oper} {listed : Array Bool} (hi : all.toArray[i]? = some oi) (h : freeX md all m listed i = true) (j : Nat) (oj : Oper)
    (hj : all.toArray[j]? = some oj) (hjm : j < m) (hne : j ≠ i) (hun : listed.getD j true = false) (hno : ∀ e ∈ oj.after, Region.binds md e = true → e.on ≠ i) :
    oi.apart all.toArray oj = true := by
 have hi' : all[i]? = some oi := by simpa using hi
 have hj' : all[j]? = some oj := by simpa using hj
 simp only [freeX, hi', List.all_eq_true, List.mem_range] at h
 have h1 := h j hjm
 simp only [hj', Bool.or_eq_true, beq_iff_eq, hne, false_or, hun, Bool.false_eq_true] at h1
 rcases h1 with h1 | h1
 ·obtain ⟨e, he, hb⟩ := Array.any_eq_true'.1 h1
  simp only [Bool.and_eq_true, beq_iff_eq] at hb
  exact absurd hb.2 (hno e he hb.1)
 ·exact h1
theorem wpAnyX_lex {md : Region.Mode} {all : List Oper} {m : Nat} {K : St → Prop} : ∀ (l : List Oper) (k : Nat) (listed : Array Bool) (st : St), (∀ j o, l[j]? = some o → all.toArray[k + j]? = some o) →
    lexX md all m l.length k listed = true → vcXs E all l st K → wpAnyX E md all m K l.length listed st
 | [], _, _, _, _, hB, h => ⟨fun i hi => by simpa using List.all_eq_true.1 hB i hi, h⟩
 | o :: l, k, listed, st, hl, hB, h => by
  have h0 : all.toArray[k]? = some o := by simpa using hl 0 o rfl
  simp only [List.length_cons, lexX, Bool.and_eq_true, decide_eq_true_eq] at hB
  obtain ⟨⟨⟨hr, hf⟩, hk⟩, hB'⟩ := hB
  obtain ⟨s, h1, h2⟩ := sopX_det h
  exact wpAnyX_first h0 hk l.length listed st (freeX_spec h0 hf) (by simpa using hr) h2
   (wpAnyX_lex l (k + 1) _ _ (fun j o hj => by have := hl (j + 1) o (by simpa using hj); simpa [Nat.add_assoc, Nat.add_comm 1 j] using this) hB' h1)
end
end Go.Sx
end
section
set_option linter.all false
namespace Go.Sx
open Go Go.RowKit
def openX (all : List Oper) (listed : Array Bool) (d : Nat) : Prop := ∀ j, takes all d j → listed.getD j true = false
structure MatX (E : Env) (all : List Oper) (listed : Array Bool) (st st' : St) (ι : Nat → Nat) : Prop where
 len : st'.t.length = st.t.length
 hx : ∃ hx, st'.h = st.h ++ hx
 hb : st.h.all (·.below st.h.length) = true
 plain : ∀ (d : Nat) (s : SV), st.t[d]? = some s → tagS s = false → st'.t[d]? = some s ∧ s.below st.h.length = true
 one : ∀ (d : Nat) (s : SV), st.t[d]? = some s → tagS s = true → cntN d (usesL all) ≤ 1
 own : ∀ (d : Nat) (s : SV) (ty k : Nat) (rows : List (List D)), st.t[d]? = some s → tagW s = some (ty, k, rows) → openX all listed d → st.h.length ≤ ι d ∧ st'.t[d]? = some (tagV s (ι d)) ∧ st'.h[ι d]? = some (tagB E ty k rows) ∧ (k = 0 → (E.T ty).zero.all isD0 = true)
 inj : ∀ (d e : Nat) (s s' : SV), st.t[d]? = some s → tagS s = true → st.t[e]? = some s' → tagS s' = true → openX all listed d → openX all listed e → ι d = ι e → d = e
def RelX (E : Env) (all : List Oper) (listed : Array Bool) (st : St) (a : Act) (w : World) : Prop := ∃ g V st' ι, Rel E.C g V st' a w ∧ MatX E all listed st st' ι
theorem tagS_inv {s : SV} (h : tagS s = true) : ∃ ty k rows, tagW s = some (ty, k, rows) := by
 unfold tagS at h
 cases hw : tagW s with
 | none => rw [hw] at h; cases h
 | some x => exact ⟨x.1, x.2.1, x.2.2, rfl⟩
theorem getD_set_self {listed : Array Bool} (i : Nat) : (listed.setIfInBounds i true).getD i true = true := by
 rcases Nat.lt_or_ge i listed.size with h | h
 ·simp [h]
 ·simp [Array.getElem?_eq_none h]
theorem open_mono {all : List Oper} {listed : Array Bool} {i d : Nat} (h : openX all (listed.setIfInBounds i true) d) : openX all listed d ∧ ¬ takes all d i := by
 refine ⟨fun j hj => ?_, fun ht => ?_⟩
 ·have := h j hj
  by_cases e : i = j
  ·subst e; rw [getD_set_self] at this; cases this
  ·rwa [getD_set_ne true e] at this
 ·have := h i ht
  rw [getD_set_self] at this; cases this
theorem nth_some {l : List SV} {d : Nat} (h : d < l.length) : l[d]? = some (nth l d) := by
 rw [nth_eq, List.getD_eq_getElem?_getD, List.getElem?_eq_getElem h]; rfl
theorem nth_none {l : List SV} {d : Nat} (h : l.length ≤ d) : nth l d = .o .u := by
 rw [nth_eq, List.getD_eq_getElem?_getD, List.getElem?_eq_none h]; rfl
theorem nthH_ext {h hx : List HB} {id : Nat} (hlt : id < h.length) : nthH (h ++ hx) id = nthH h id := by
 rw [nthH_eq, nthH_eq, List.getD_eq_getElem?_getD, List.getD_eq_getElem?_getD, List.getElem?_append_left hlt]
section
variable {E : Env} {all : List Oper} {listed : Array Bool} {st st' : St} {ι : Nat → Nat}
theorem MatX.nth (hm : MatX E all listed st st' ι) {d : Nat} (h : tagS (nth st.t d) = false) : nth st'.t d = nth st.t d := by
 rcases Nat.lt_or_ge d st.t.length with hl | hl
 ·have h1 := (hm.plain d _ (nth_some hl) h).1
  have h2 := nth_some (l := st'.t) (d := d) (by rw [hm.len]; exact hl)
  rw [h1] at h2
  exact (Option.some.inj h2).symm
 ·rw [nth_none hl, nth_none (by rw [hm.len]; exact hl)]
theorem MatX.ev (hm : MatX E all listed st st' ι) {x : Operand} (h : tagS (ev st x) = false) : Go.Sx.ev st' x = Go.Sx.ev st x := by
 cases x with
 | tmp d => exact hm.nth h
 | _ => rfl
theorem MatX.dst (hm : MatX E all listed st st' ι) {j : Nat} (h : tagS (dstOf all j st) = false) : dstOf all j st' = dstOf all j st := by
 unfold dstOf at h ⊢
 split
 ·rename_i o e
  rw [e] at h
  simp only at h ⊢
  split
  ·rename_i d e'
   rw [e'] at h
   exact hm.nth h
  ·rfl
 ·rfl
theorem put_get {st : St} {d n : Nat} {s x : SV} (h : (st.put (some d) s).t[n]? = some x) : (n = d ∧ x = s ∧ d < st.t.length) ∨ (n ≠ d ∧ st.t[n]? = some x) := by
 simp only [St.put, setN_eq, List.getElem?_set] at h
 by_cases e : d = n
 ·subst e
  rw [if_pos rfl] at h
  split at h
  ·cases h; exact .inl ⟨rfl, rfl, ‹_›⟩
  ·cases h
 ·rw [if_neg e] at h
  exact .inr ⟨fun h' => e h'.symm, h⟩
theorem put_ne {st : St} {d n : Nat} {s : SV} (h : n ≠ d) : (st.put (some d) s).t[n]? = st.t[n]? := by
 have h' : d ≠ n := fun e => h e.symm
 simp only [St.put, setN_eq, List.getElem?_set, if_neg h']
theorem put_eq {st : St} {d : Nat} {s : SV} (h : d < st.t.length) : (st.put (some d) s).t[d]? = some s := by
 simp only [St.put, setN_eq, List.getElem?_set, if_true, h]
theorem put_len (st : St) (d : Option Nat) (s : SV) : (st.put d s).t.length = st.t.length := by
 cases d <;> simp [St.put, setN_eq]
theorem MatX.put_plain (hm : MatX E all listed st st' ι) (i : Nat) (d : Option Nat) {s : SV} (hs : tagS s = false) (hb : s.below st.h.length = true) : MatX E all (listed.setIfInBounds i true) (st.put d s) (st'.put d s) ι := by
 cases d with
 | none => exact ⟨hm.len, hm.hx, hm.hb, hm.plain, hm.one, fun d s ty k rows h1 ht h2 => hm.own d s ty k rows h1 ht (open_mono h2).1, fun d e s s' h1 h2 h3 h4 h5 h6 => hm.inj d e s s' h1 h2 h3 h4 (open_mono h5).1 (open_mono h6).1⟩
 | some d =>
  have old : ∀ {n x}, (st.put (some d) s).t[n]? = some x → tagS x = true → n ≠ d ∧ st.t[n]? = some x := fun {n x} h1 h2 => by
   rcases put_get h1 with ⟨_, rfl, _⟩ | h
   ·rw [hs] at h2; cases h2
   ·exact h
  refine ⟨by rw [put_len, put_len]; exact hm.len, hm.hx, hm.hb, fun n x h1 h2 => ?_, fun n x h1 h2 => hm.one n x (old h1 h2).2 h2, fun n x ty k rows h1 ht h2 => ?_, fun n e x x' h1 h2 h3 h4 h5 h6 => hm.inj n e x x' (old h1 h2).2 h2 (old h3 h4).2 h4 (open_mono h5).1 (open_mono h6).1⟩
  ·rcases put_get h1 with ⟨rfl, rfl, hl⟩ | ⟨hn, h⟩
   ·exact ⟨put_eq (by rw [hm.len]; exact hl), hb⟩
   ·rw [put_ne hn]; exact hm.plain n x h h2
  ·obtain ⟨hn, h⟩ := old h1 (tagS_of ht)
   rw [put_ne hn]
   exact hm.own n x ty k rows h ht (open_mono h2).1
theorem MatX.put_tag (hm : MatX E all listed st st' ι) (i : Nat) {d n ty k : Nat} {rows : List (List D)} {tg : SV} (htg : tagW tg = some (ty, k, rows)) {st2 : St} (hl : st2.t.length = st'.t.length) (hh : ∃ hx, st2.h = st.h ++ hx) (hc : cntN d (usesL all) ≤ 1) (hz : k = 0 → (E.T ty).zero.all isD0 = true)
    (hp : ∀ (e : Nat) (s : SV), st'.t[e]? = some s → s.below st.h.length = true → st2.t[e]? = some s)
    (ho : ∀ (e : Nat) (s : SV), st.t[e]? = some s → tagS s = true → openX all (listed.setIfInBounds i true) e → st2.t[e]? = st'.t[e]? ∧ st2.h[ι e]? = st'.h[ι e]? ∧ ι e ≠ n)
    (hn : st.h.length ≤ n) (hb : st2.h[n]? = some (tagB E ty k rows)) :
    MatX E all (listed.setIfInBounds i true) (st.put (some d) tg) (st2.put (some d) (tagV tg n)) (fun e => if e = d then n else ι e) := by
 refine ⟨by rw [put_len, put_len, hl]; exact hm.len, hh, hm.hb, fun e x h1 h2 => ?_, fun e x h1 h2 => ?_, fun e x ty' k' rows' h1 ht h2 => ?_, fun e e' x x' h1 h2 h3 h4 h5 h6 h7 => ?_⟩
 ·rcases put_get h1 with ⟨_, rfl, _⟩ | ⟨hne, h⟩
  ·rw [tagS_of htg] at h2; cases h2
  ·rw [put_ne hne]
   obtain ⟨q1, q2⟩ := hm.plain e x h h2
   exact ⟨hp e x q1 q2, q2⟩
 ·rcases put_get h1 with ⟨rfl, _, _⟩ | ⟨_, h⟩
  ·exact hc
  ·exact hm.one e x h h2
 ·rcases put_get h1 with ⟨rfl, hx, hlt⟩ | ⟨hne, h⟩
  ·subst hx
   rw [htg] at ht; cases ht
   simp only [if_true]
   exact ⟨hn, put_eq (by rw [hl, hm.len]; exact hlt), hb, hz⟩
  ·simp only [if_neg hne]
   rw [put_ne hne]
   obtain ⟨q1, q2, q3, q4⟩ := hm.own e x ty' k' rows' h ht (open_mono h2).1
   obtain ⟨p1, p2, _⟩ := ho e _ h (tagS_of ht) h2
   exact ⟨q1, p1.trans q2, p2.trans q3, q4⟩
 ·rcases put_get h1 with ⟨rfl, _, _⟩ | ⟨hne, h⟩
  ·rcases put_get h3 with ⟨rfl, _, _⟩ | ⟨hne', h'⟩
   ·rfl
   ·simp only [if_true, if_neg hne'] at h7
    exact ((ho e' x' h' h4 h6).2.2 h7.symm).elim
  ·rcases put_get h3 with ⟨rfl, _, _⟩ | ⟨hne', h'⟩
   ·simp only [if_true, if_neg hne] at h7
    exact ((ho e x h h2 h5).2.2 h7).elim
   ·simp only [if_neg hne, if_neg hne'] at h7
    exact hm.inj e e' x x' h h2 h' h4 (open_mono h5).1 (open_mono h6).1 h7
theorem MatX.lt (hm : MatX E all listed st st' ι) {e : Nat} {s : SV} (h : st.t[e]? = some s) (ht : tagS s = true) (ho : openX all listed e) : ι e < st'.h.length := by
 obtain ⟨ty, k, rows, hw⟩ := tagS_inv ht
 exact (List.getElem?_eq_some_iff.1 (hm.own e s ty k rows h hw ho).2.2.1).1
theorem MatX.push (hm : MatX E all listed st st' ι) (i : Nat) {d ty k : Nat} {rows : List (List D)} {tg : SV} (htg : tagW tg = some (ty, k, rows)) (hc : cntN d (usesL all) ≤ 1) (hz : k = 0 → (E.T ty).zero.all isD0 = true) :
    MatX E all (listed.setIfInBounds i true) (st.put (some d) tg) ((⟨st'.t, st'.h ++ [tagB E ty k rows]⟩ : St).put (some d) (tagV tg st'.h.length)) (fun e => if e = d then st'.h.length else ι e) := by
 obtain ⟨hx, hh⟩ := hm.hx
 refine hm.put_tag i htg rfl ⟨hx ++ [tagB E ty k rows], by rw [hh, List.append_assoc]⟩ hc hz (fun e s h _ => h) (fun e s h1 h2 h3 => ⟨rfl, ?_, ?_⟩) (by rw [hh]; simp) (by simp)
 ·have := hm.lt h1 h2 (open_mono h3).1
  exact List.getElem?_append_left this
 ·have := hm.lt h1 h2 (open_mono h3).1
  omega
theorem pureA_ext {h hx : List HB} {a : At} (hb : a.below h.length = true) : pureA (h ++ hx) a = pureA h a := by
 cases a with
 | s id => simp only [pureA]; rw [nthH_ext (by simpa [At.below] using hb)]
 | _ => rfl
theorem pureO_ext {h hx : List HB} {a : At} (hb : a.below h.length = true) : pureO (h ++ hx) a = pureO h a := by
 cases a with
 | s id => simp only [pureO]; rw [nthH_ext (by simpa [At.below] using hb)]
 | _ => rfl
theorem pureS_ext {h hx : List HB} {s : SV} (hb : s.below h.length = true) : pureS (h ++ hx) s = pureS h s := by
 cases s with
 | o a => simp only [pureS]; rw [pureA_ext hb]
 | g cs => simp only [pureS]; congr 1; exact List.map_congr_left fun a ha => pureA_ext (List.all_eq_true.1 hb a ha)
 | t l => rfl
theorem pureOS_ext {h hx : List HB} {s : SV} (hb : s.below h.length = true) : pureOS (h ++ hx) s = pureOS h s := by
 cases s with
 | o a => simp only [pureOS]; rw [pureO_ext hb]
 | g cs => simp only [pureOS]; congr 1; exact List.map_congr_left fun a ha => pureO_ext (List.all_eq_true.1 hb a ha)
 | t l => rfl
theorem CallD_ext {f : Nat} {args : List SV} {h hx : List HB} {k : SV → Prop} (hb : args.all (·.below h.length) = true) (hc : CallD E f args h k ⟨⟩) : CallD E f args (h ++ hx) k ⟨⟩ := by
 obtain ⟨⟨args', res, c1, c2, c3, c4, c5⟩ | ⟨args', ty, sz, rows, c1, c2, c3, c4, c5⟩⟩ := hc
 case inr => exact ⟨.inr ⟨args', ty, sz, rows, c1, by rw [← c2]; exact List.map_congr_left fun s hs => pureOS_ext (List.all_eq_true.1 hb s hs), c3, c4, c5⟩⟩
 refine ⟨.inl ⟨args', res, c1, ?_, c3, c4, c5⟩⟩
 rcases c2 with c2 | ⟨c2, c6⟩
 ·exact .inl (by rw [← c2]; exact List.map_congr_left fun s hs => pureS_ext (List.all_eq_true.1 hb s hs))
 ·exact .inr ⟨by rw [← c2]; exact List.map_congr_left fun s hs => pureOS_ext (List.all_eq_true.1 hb s hs), c6⟩
theorem vcD_ext {op : Op} {ρ : Operand → SV} {h hx : List HB} {k : SV → Prop} (hb : ∀ x ∈ op.operands, (ρ x).below h.length = true) (hd : vcD E op ρ h k) : vcD E op ρ (h ++ hx) k := by
 have ext : ∀ {x : Operand} {id off : Nat}, x ∈ op.operands → ρ x = .o (.p id off) → nthH (h ++ hx) id = nthH h id := fun {x id off} hx' e => nthH_ext (by have := hb x hx'; rw [e] at this; simpa [SV.below, At.below] using this)
 unfold vcD at hd ⊢
 split at hd <;> simp only [Op.operands] at hb
 case h_4 t x =>
  have hbx := hb x (by simp)
  unfold vcLoad at hd ⊢
  split at hd
  ·rename_i id off e
   rw [e] at hbx
   simp only
   rw [nthH_ext (by simpa [SV.below, At.below] using hbx)]; exact hd
  ·exact hd
  ·rename_i id sz i fo e
   rw [e] at hbx
   simp only
   rw [nthH_ext (by simpa [SV.below, At.below] using hbx)]; exact hd
  ·rename_i id sz i fo e
   rw [e] at hbx
   simp only
   rw [nthH_ext (by simpa [SV.below, At.below] using hbx)]; exact hd
  ·exact hd.elim
 case h_7 t x i =>
  have hbx := hb x (by simp)
  unfold vcIndexAddr at hd ⊢
  refine ⟨hd.1, hd.2.1, ?_⟩
  have hd := hd.2.2
  split at hd
  ·exact hd
  ·rename_i id _ n e1 e2
   rw [e1] at hbx
   simp only
   rw [nthH_ext (by simpa [SV.below, At.below] using hbx)]; exact hd
  ·exact hd.elim
 case h_13 c =>
  split at hd
  ·rename_i f hc
   split at hd
   ·rename_i fn caps e
    refine CallD_ext ?_ hd
    rw [List.all_append, Bool.and_eq_true]
    refine ⟨?_, ?_⟩
    ·rw [List.all_map, List.all_eq_true]
     intro x hx'
     exact hb x (by simp only [Call.operands, Array.mem_append]; exact .inr (by simpa using hx'))
    ·simp [SV.below, At.below]
   ·exact hd.elim
  ·rename_i hc
   split at hd
   ·rename_i x t e1 e2
    have hbx := hb x (by simp only [Call.operands, Array.mem_append]; exact .inr (by rw [← Array.mem_toList_iff, e1]; simp))
    unfold vcLen at hd ⊢
    split at hd
    ·exact hd
    ·exact hd
    ·exact hd
    ·rename_i id e
     rw [e] at hbx
     simp only
     rw [nthH_ext (by simpa [SV.below, At.below] using hbx)]; exact hd
    ·exact hd.elim
   ·exact hd.elim
  ·split at hd
   ·exact hd
   ·exact hd.elim
  ·exact hd.elim
 case h_14 t x lo hi =>
  have hbx := hb x (by simp)
  unfold vcDSlice at hd ⊢
  split at hd
  ·exact hd
  ·exact hd
  ·rename_i id e
   rw [e] at hbx
   rw [nthH_ext (by simpa [SV.below, At.below] using hbx)]; exact hd
  ·exact hd.elim
 all_goals exact hd
end
end Go.Sx
end
section
set_option linter.all false
namespace Go.Sx
open Go Go.RowKit
theorem tagB_own (E : Env) (ty sz : Nat) (rows : List (List D)) : tagB E ty (2 * sz + 1) rows = .row ty sz rows true := by
 have h1 : (2 * sz + 1 - 1) / 2 = sz := by omega
 have h2 : ((2 * sz + 1) % 2 == 1) = true := by simp
 simp [tagB, h1, h2]
theorem tagB_lin (E : Env) (ty sz : Nat) (rows : List (List D)) (b : Bool) : tagB E ty (2 * sz + (if b then 1 else 2)) rows = .row ty sz rows b := by
 cases b with
 | true => exact tagB_own E ty sz rows
 | false =>
  have h1 : (2 * sz + 2 - 1) / 2 = sz := by omega
  have h2 : ((2 * sz + 2) % 2 == 1) = false := by simp
  have h3 : (2 * sz + 1) / 2 = sz := by omega
  simp [tagB, h1, h2, h3]
theorem tagB_row (E : Env) {ty k : Nat} {rows : List (List D)} (h : k ≠ 0) : tagB E ty k rows = .row ty ((k - 1) / 2) rows (k % 2 == 1) := by simp [tagB, h]
theorem tagV_row {ty k n : Nat} {rows : List (List D)} (h : k ≠ 0) : tagV (.o (.w ty k rows)) n = .o (.s n) := by simp [tagV, h]
theorem kill_tagV {s : SV} {id n : Nat} (hs : tagS s = true) (hne : n ≠ id) : killS id (tagV s n) = tagV s n := by
 obtain ⟨ty, k, rows, hw⟩ := tagS_inv hs
 cases s with
 | o a =>
  cases a <;> simp only [tagW] at hw <;> first | cases hw | skip
  simp only [tagV]
  split <;> simp [killS, killA, hne]
 | g cs =>
  simp only [tagV, killS]
  congr 1
  refine List.ext_getElem? fun j => ?_
  rw [List.getElem?_map]
  cases hc : (putW n cs)[j]? with
  | none => rfl
  | some c =>
   simp only [Option.map_some, Option.some.injEq]
   rcases putW_get hw n j c hc with ⟨q, _⟩ | ⟨rfl, _⟩
   ·cases c <;> first | rfl | cases q
   ·simp [killA, hne]
 | t l => cases hw
theorem cSV_tag {g : List Gh} {V : View} {s : SV} {y : Value} (h : cSV g V s y) (ht : tagS s = true) : False := by
 obtain ⟨ty, k, rows, hw⟩ := tagS_inv ht
 cases s with
 | o a => cases a <;> simp only [tagW] at hw <;> first | (cases hw; done) | exact h
 | g cs =>
  obtain ⟨l, _, h1, h2⟩ := h
  obtain ⟨_, i, hi⟩ := tagC_mem hw
  have hl := (List.getElem?_eq_some_iff.1 hi).1
  exact h2 i _ _ hi (List.getElem?_eq_getElem (by rw [h1]; exact hl))
 | t l => cases hw
theorem tag_noV {s : SV} {ds : List D} (h : valV s = some ds) : tagS s = false := by
 cases hq : tagS s with
 | false => rfl
 | true =>
  obtain ⟨ty, k, rs, hw⟩ := tagS_inv hq
  cases s with
  | o a => cases a <;> simp only [tagW] at hw <;> first | (cases hw; done) | (simp [valV, cellsV, cellV] at h)
  | g cs =>
   have key : ∀ {cs : List At} {x : Nat × Nat × List (List D)}, tagC cs = some x → cellsV cs = none := by
    intro cs
    induction cs with
    | nil => intro x h; cases h
    | cons a r ih =>
     intro x h
     rcases tagC_cons h with ⟨ty', k', rows', rfl, _, _, _⟩ | ⟨_, h2, _, _⟩
     ·rfl
     ·simp only [cellsV, ih h2]; cases cellV a <;> rfl
   simp only [valV] at h
   rw [key hw] at h; cases h
  | t l => cases hw
theorem adA_D0 (n : Nat) : ∀ {r : List At}, r.all isD0 = true → adA n r = r ∧ adH r = []
 | [], _ => ⟨rfl, rfl⟩
 | a :: r, h => by
  simp only [List.all_cons, Bool.and_eq_true] at h
  obtain ⟨h1, h2⟩ := adA_D0 n h.2
  have h0 := h.1
  cases a <;> first | (cases h0; done) | (simp [adA, adH, h1, h2])
theorem adA_tag (n : Nat) : ∀ {cs : List At} {ty k : Nat} {rows : List (List D)}, tagC cs = some (ty, k, rows) → adA n cs = putW n (liftC cs) ∧ adH cs = [.row ty k rows true]
 | [], _, _, _, h => by cases h
 | a :: r, ty, k, rows, h => by
  rcases tagC_cons h with ⟨ty', k', rows', rfl, h1, h2, h3⟩ | ⟨h1, h2, _, h4⟩
  ·cases h3
   obtain ⟨q1, q2⟩ := adA_D0 (n + 1) h1
   simp [adA, adH, q1, q2, liftC, putW]
  ·obtain ⟨q1, q2⟩ := adA_tag n h2
   rw [h4]
   cases a <;> first | (cases h1; done) | (simp [adA, adH, q1, q2, putW])
theorem adS_tag (n : Nat) {s : SV} {ty k : Nat} {rows : List (List D)} (h : tagW s = some (ty, k, rows)) : adS n s = tagV (liftS s) n ∧ adH s.all = [.row ty k rows true] := by
 cases s with
 | o a =>
  cases a <;> simp only [tagW] at h <;> first | cases h | skip
  exact ⟨by simp [adS, adA, liftS, tagV], rfl⟩
 | g cs =>
  obtain ⟨q1, q2⟩ := adA_tag n h
  exact ⟨by simp only [adS, liftS, tagV, q1], q2⟩
 | t l => cases h
theorem killA_below {n id : Nat} {a : At} (h : a.below n = true) (hn : n ≤ id) : killA id a = a := by
 cases a <;> simp only [killA, At.below, decide_eq_true_eq] at h ⊢ <;> first | rfl | rw [if_neg (by omega)]
theorem killS_below {n id : Nat} {s : SV} (h : s.below n = true) (hn : n ≤ id) : killS id s = s := by
 cases s with
 | o a => simp only [killS]; rw [killA_below h hn]
 | g cs => simp only [killS]; rw [List.map_congr_left fun a ha => killA_below (List.all_eq_true.1 h a ha) hn, List.map_id'']; intro; rfl
 | t l =>
  simp only [killS]
  rw [List.map_congr_left (g := fun x => x) fun x hx => by
   have := List.all_eq_true.1 h x hx
   obtain ⟨b, cs⟩ := x
   simp only [Prod.mk.injEq]
   exact ⟨trivial, by rw [List.map_congr_left fun a ha => killA_below (List.all_eq_true.1 this a ha) hn, List.map_id'']; intro; rfl⟩]
  simp
theorem killB_below {n id : Nat} {b : HB} (h : b.below n = true) (hn : n ≤ id) : killB id b = b := by
 cases b with
 | box ty cs => simp only [killB]; rw [List.map_congr_left fun a ha => killA_below (List.all_eq_true.1 h a ha) hn, List.map_id'']; intro; rfl
 | _ => rfl
theorem killB_tag {E : Env} {ty k id : Nat} {rows : List (List D)} (hz : k = 0 → (E.T ty).zero.all isD0 = true) : killB id (tagB E ty k rows) = tagB E ty k rows := by
 unfold tagB
 split
 ·rename_i h
  simp only [killB]
  rw [List.map_congr_left (g := fun a => a) fun a ha => by
   have := List.all_eq_true.1 (hz h) a ha
   cases a <;> simp_all [isD0, killA], List.map_id'']
  intro; rfl
 ·rfl
theorem cellsV_abs : ∀ {cs : List At} {ds : List D}, cellsV cs = some ds → idsL cs = [] ∧ ∀ h, absL h cs = some (ds, true)
 | [], ds, h => by cases h; exact ⟨rfl, fun _ => rfl⟩
 | a :: r, ds, h => by
  simp only [cellsV] at h
  cases ha : cellV a with
  | none => rw [ha] at h; cases h
  | some d =>
   rw [ha] at h
   simp only [Option.bind_some, Option.map_eq_some_iff] at h
   obtain ⟨ds', h1, rfl⟩ := h
   obtain ⟨e1, e2⟩ := cellsV_abs h1
   unfold cellV at ha
   split at ha
   ·cases ha; exact ⟨e1, fun h => by simp [absL, absA, e2 h]⟩
   ·cases ha; exact ⟨e1, fun h => by simp [absL, absA, e2 h]⟩
   ·cases ha
theorem idsL_app : ∀ l m : List At, idsL (l ++ m) = idsL l ++ idsL m
 | [], m => rfl
 | a :: l, m => by cases a <;> simp [idsL, idsL_app l m]
section
variable {E : Env} {all : List Oper} {listed : Array Bool} {st st' : St} {ι : Nat → Nat} {o : Oper} {i : Nat} {g : List Gh} {V : View} {a : Act} {w : World} {K : St → Prop} {K' : Act → World → Prop} {Q : Exit → Act → World → Prop}
theorem partsV_C (hm : MatX E all listed st st' ι) : ∀ {l : List (Nat × Operand)} {n : Nat} {rows : List (List D)}, partsV (ev st) n l = some rows → ∃ css, partsC st' n l = some css ∧ idsL css.flatten = [] ∧ ∀ h, absR h css = some (rows, true)
 | [], n, rows, h => by cases h; exact ⟨[], rfl, rfl, fun _ => rfl⟩
 | (j, x) :: r, n, rows, h => by
  simp only [partsV] at h
  split at h
  ·rename_i hj
   cases hv : valV (ev st x) with
   | none => rw [hv] at h; cases h
   | some ds =>
    rw [hv] at h
    simp only [Option.bind_some, Option.map_eq_some_iff] at h
    obtain ⟨rows', h1, rfl⟩ := h
    obtain ⟨css, c1, c2, c3⟩ := partsV_C hm h1
    have ht : tagS (ev st x) = false := tag_noV hv
    have he := hm.ev ht
    have hc : ∃ cs, (ev st x).cells = cs ∧ cellsV cs = some ds ∧ boxable (ev st x) = true := by
     cases hs : ev st x with
     | o a =>
      rw [hs] at hv
      refine ⟨[a], rfl, hv, ?_⟩
      simp only [valV, cellsV] at hv
      cases a <;> first | rfl | (simp [cellV] at hv)
     | g cs => rw [hs] at hv; exact ⟨cs, rfl, hv, rfl⟩
     | t l => rw [hs] at hv; cases hv
    obtain ⟨cs, e1, e2, e3⟩ := hc
    obtain ⟨f1, f2⟩ := cellsV_abs e2
    refine ⟨cs :: css, ?_, by rw [List.flatten_cons, idsL_app, f1, c2]; rfl, fun h => by simp [absR, f2 h, c3 h]⟩
    simp only [partsC, he, e3, hj, and_self, if_true, c1, Option.map_some, e1]
  ·cases h
theorem chk_tag {n0 : Nat} {tg : SV} (h : chkX all o n0 tg) (ht : tagS tg = true) : ∃ d, o.dst = some d ∧ cntN d (usesL all) ≤ 1 := by
 unfold chkX at h
 simp only [ht, if_true] at h
 split at h
 ·rename_i d e; exact ⟨d, e, of_decide_eq_true h⟩
 ·exact h.elim
theorem tag_ok (hT : TyOK E.P E.T) (hE : ∀ t, E.eqk t ≠ [] → EqT E.P t (E.eqk t)) (hr : Rel E.C g V st' a w) (hK : ∀ st a w, RelX E all (listed.setIfInBounds i true) st a w → K st → K' a w) {tg : SV}
    (hv : vcOp E o.op st' fun st2 s => ∃ d n, o.dst = some d ∧ s = tagV tg n ∧ MatX E all (listed.setIfInBounds i true) (st.put (some d) tg) (st2.put (some d) (tagV tg n)) (fun e => if e = d then n else ι e))
    (hk : K (st.put o.dst tg)) : o.wp E.P a w K' Q :=
 vcOp_ok hT hE hv hr fun g' V' st2 w' s y hr' hs h => by
  obtain ⟨d, n, hd, rfl, hm'⟩ := h
  rw [hd] at hk ⊢
  exact hK _ _ _ ⟨g', V', _, _, hr'.put (some d) hs, hm'⟩ hk
theorem plain_ok (hT : TyOK E.P E.T) (hE : ∀ t, E.eqk t ≠ [] → EqT E.P t (E.eqk t)) (hr : Rel E.C g V st' a w) (hm : MatX E all listed st st' ι) (hK : ∀ st a w, RelX E all (listed.setIfInBounds i true) st a w → K st → K' a w)
    (hs : (slotsO (opL o.op)).all (fun d => !tagS (ev st (.tmp d)) && (ev st (.tmp d)).below st.h.length) = true) (h : vcD E o.op (ev st) st.h fun s => chkX all o st.h.length s ∧ K (st.put o.dst s)) : o.wp E.P a w K' Q := by
 rw [List.all_eq_true] at hs
 have hx : ∀ x ∈ o.op.operands, ev st x = ev st' x ∧ (ev st' x).below st.h.length = true := fun x hx => by
  cases x with
  | tmp d =>
   have hd := hs d (mem_slotsO.2 (by rw [opL_eq]; simpa using hx))
   simp only [Bool.and_eq_true, Bool.not_eq_true'] at hd
   have he := hm.ev hd.1
   exact ⟨he.symm, by rw [he]; exact hd.2⟩
  | const v =>
   refine ⟨rfl, ?_⟩
   simp only [ev, constSV]
   split <;> rfl
  | func f => exact ⟨rfl, rfl⟩
  | global n => exact ⟨rfl, rfl⟩
 obtain ⟨hxx, hh⟩ := hm.hx
 have h1 := vcD_ext (hx := hxx) (fun x h => (hx x h).2) (vcD_congr (fun x h => (hx x h).1) h)
 rw [← hh] at h1
 exact vcOp_ok hT hE (vcD_vcOp h1) hr fun g' V' st'' w' s y hr' hs' hk => by
  obtain ⟨rfl, hchk, hk⟩ := hk
  have ht : tagS s = false := by
   cases hq : tagS s with
   | false => rfl
   | true => exact (cSV_tag hs' hq).elim
  unfold chkX at hchk
  rw [ht] at hchk
  exact hK _ _ _ ⟨g', V', _, ι, hr'.put o.dst hs', hm.put_plain i o.dst ht hchk⟩ hk
theorem const_tag (v : Value) : tagS (constSV v) = false := by unfold constSV; split <;> rfl
theorem tag_tmp {x : Operand} {tg : SV} (h : ev st x = tg) (ht : tagS tg = true) : ∃ e, x = .tmp e ∧ st.t[e]? = some tg := by
 cases x with
 | tmp e =>
  refine ⟨e, rfl, ?_⟩
  simp only [ev] at h
  rcases Nat.lt_or_ge e st.t.length with hl | hl
  ·rw [nth_some hl, h]
  ·rw [nth_none hl] at h; subst h; cases ht
 | const v => have := const_tag v; simp only [ev] at h; rw [h, ht] at this; cases this
 | func f => simp only [ev] at h; subst h; cases ht
 | global n => simp only [ev] at h; subst h; cases ht
theorem move_ok (hT : TyOK E.P E.T) (hE : ∀ t, E.eqk t ≠ [] → EqT E.P t (E.eqk t)) (hi : all[i]? = some o) (hun : listed.getD i true = false) (hr : Rel E.C g V st' a w) (hm : MatX E all listed st st' ι) (hK : ∀ st a w, RelX E all (listed.setIfInBounds i true) st a w → K st → K' a w)
    {x : Operand} (hv : ∀ k : St → SV → Prop, k st' (ev st' x) → vcOp E o.op st' k) (hop : x ∈ useL o.op) (hc : chkX all o st.h.length (ev st x)) (hk : K (st.put o.dst (ev st x))) : o.wp E.P a w K' Q := by
 cases ht : tagS (ev st x) with
 | false =>
  have he := hm.ev ht
  refine vcOp_ok hT hE (hv (fun st'' s => st'' = st' ∧ s = ev st' x) ⟨rfl, rfl⟩) hr fun g' V' st'' w' s y hr' hs' h => ?_
  obtain ⟨rfl, rfl⟩ := h
  rw [he] at hs'
  unfold chkX at hc
  rw [ht] at hc
  exact hK _ _ _ ⟨g', V', _, ι, hr'.put o.dst hs', hm.put_plain i o.dst ht hc⟩ hk
 | true =>
  obtain ⟨ty, k, rows, hw⟩ := tagS_inv ht
  obtain ⟨d, hd, hcnt⟩ := chk_tag hc ht
  obtain ⟨s, rfl, hs⟩ := tag_tmp rfl ht
  have htk : takes all s i := ⟨o, hi, hop⟩
  have hone := hm.one s _ hs ht
  have hopn : openX all listed s := fun j hj => by rw [takes_one hone hj htk]; exact hun
  obtain ⟨o1, o2, o3, o4⟩ := hm.own s _ ty k rows hs hw hopn
  have hev : ev st' (.tmp s) = tagV (ev st (.tmp s)) (ι s) := by
   have hl := (List.getElem?_eq_some_iff.1 o2).1
   have := nth_some hl
   rw [o2] at this
   exact (Option.some.inj this).symm
  refine tag_ok hT hE hr hK (tg := ev st (.tmp s)) (ι := ι) (hv _ ⟨d, ι s, hd, hev, ?_⟩) hk
  refine hm.put_tag i hw rfl hm.hx hcnt o4 (fun e s h _ => h) (fun e s2 h1 h2 h3 => ⟨rfl, rfl, fun heq => ?_⟩) o1 o3
  have := hm.inj e s s2 _ h1 h2 hs ht (open_mono h3).1 hopn heq
  subst this
  exact (open_mono h3).2 htk
theorem goneF_get {h : List HB} {ids : List Nat} (hids : ids = [] ∨ ∃ j, ids = [j]) (n : Nat) (hn : n ∉ ids) : (goneH (frzH h ids) ids)[n]? = h[n]? := by
 rcases hids with rfl | ⟨j, rfl⟩
 ·rfl
 ·have hne : j ≠ n := fun e => hn (by simp [e])
  simp only [goneH, frzH]
  split <;> simp only [setH_eq, List.getElem?_set, if_neg hne]
theorem goneF_len {h : List HB} {ids : List Nat} (hids : ids = [] ∨ ∃ j, ids = [j]) : (goneH (frzH h ids) ids).length = h.length := by
 rcases hids with rfl | ⟨j, rfl⟩
 ·rfl
 ·simp only [goneH, frzH]
  split <;> simp [setH_eq]
theorem cnt_op {d : Nat} (hi : all[i]? = some o) : cntN d (slotsO (useL o.op)) ≤ cntN d (usesL all) := by
 induction all generalizing i with
 | nil => simp at hi
 | cons x r ih =>
  simp only [usesL, cntN_app]
  cases i with
  | zero => simp at hi; subst hi; omega
  | succ i => have := ih (by simpa using hi); omega
theorem appendX_ok (hT : TyOK E.P E.T) (hE : ∀ t, E.eqk t ≠ [] → EqT E.P t (E.eqk t)) (hi : all[i]? = some o) (hun : listed.getD i true = false) (hr : Rel E.C g V st' a w) (hm : MatX E all listed st st' ι) (hK : ∀ st a w, RelX E all (listed.setIfInBounds i true) st a w → K st → K' a w)
    {c : Call} {s x : Operand} {t : Nat} (ho : o.op = .call c) (hc : c.callee = .builtin .append) (ha : c.args.toList = [s, x]) (hty : c.argTypes.toList = [t, t]) (h1 : (E.T t).tag = 2) (h2 : (E.T (E.T t).elem).tag ≠ 0)
    {ty kk : Nat} {rows rows2 : List (List D)} {lin2 : Bool} (es : ev st s = .o (.w ty kk rows)) (ex : rowsV (ev st x) = some (rows2, lin2)) (b1 : kk ≠ 0) (b2 : ty = (E.T t).elem) (b3 : (kk - 1) / 2 = (E.T (E.T t).elem).size) (b4 : uni (E.T (E.T t).elem).size rows2) (b5 : rows.length + rows2.length ≤ maxLen)
    (b6 : (rows.length + rows2.length) * (E.T (E.T t).elem).bytes ≤ 140737488355328) (hch : chkX all o st.h.length (.o (.w ty (2 * (E.T (E.T t).elem).size + (if (kk % 2 == 1) && lin2 then 1 else 2)) (rows ++ rows2))))
    (hk : K (st.put o.dst (.o (.w ty (2 * (E.T (E.T t).elem).size + (if (kk % 2 == 1) && lin2 then 1 else 2)) (rows ++ rows2))))) : o.wp E.P a w K' Q := by
 obtain ⟨d, hd, hcnt⟩ := chk_tag hch rfl
 obtain ⟨e1, rfl, hs1⟩ := tag_tmp es rfl
 have hops : useL o.op = [.tmp e1, x] := by rw [ho]; simp only [useL, opL, hc, ha]
 have htk1 : takes all e1 i := ⟨o, hi, by rw [hops]; simp⟩
 have hone1 := hm.one e1 _ hs1 rfl
 have hopn1 : openX all listed e1 := fun j hj => by rw [takes_one hone1 hj htk1]; exact hun
 obtain ⟨o1, o2, o3, o4⟩ := hm.own e1 _ ty kk rows hs1 rfl hopn1
 rw [tagV_row b1] at o2
 rw [tagB_row E b1] at o3
 have tmp : ∀ {e : Nat} {v : SV}, st'.t[e]? = some v → ev st' (.tmp e) = v := fun {e v} h => by
  have hl := (List.getElem?_eq_some_iff.1 h).1
  have := nth_some hl
  rw [h] at this
  exact (Option.some.inj this).symm
 have hev1 := tmp o2
 have hlt1 : ι e1 < st'.h.length := (List.getElem?_eq_some_iff.1 o3).1
 have hn1 : nthH st'.h (ι e1) = .row ty ((kk - 1) / 2) rows (kk % 2 == 1) := by rw [nthH_eq, List.getD_eq_getElem?_getD, o3]; rfl
 obtain ⟨ids, hsrc, hids, hfree⟩ : ∃ ids, srcR st' (ev st' x) = some (rows2, lin2, ids) ∧ (ids = [] ∨ ∃ j, ids = [j]) ∧ ∀ n ∈ ids, n ≠ ι e1 ∧ st.h.length ≤ n ∧ ∀ e s, st.t[e]? = some s → tagS s = true → openX all (listed.setIfInBounds i true) e → ι e ≠ n := by
  cases ht : tagS (ev st x) with
  | false =>
   have he := hm.ev ht
   rw [he]
   refine ⟨[], ?_, .inl rfl, fun n hn => by simp at hn⟩
   unfold rowsV at ex
   split at ex
   ·rename_i rs e; cases ex; rw [e]; rfl
   ·rename_i e; cases ex; rw [e]; rfl
   ·rename_i e; rw [e] at ht; cases ht
   ·cases ex
  | true =>
   obtain ⟨ty2, k2, rs2, e⟩ : ∃ ty2 k2 rs2, ev st x = .o (.w ty2 k2 rs2) := by
    unfold rowsV at ex
    split at ex
    ·rename_i rs e; rw [e] at ht; cases ht
    ·rename_i e; rw [e] at ht; cases ht
    ·rename_i ty2 k2 rs2 e; exact ⟨_, _, _, e⟩
    ·cases ex
   rw [e] at ex
   simp only [rowsV] at ex
   split at ex
   ·cases ex
   ·rename_i hk2
    cases ex
    obtain ⟨e2, rfl, hs2⟩ := tag_tmp e rfl
    have hne : e2 ≠ e1 := fun h => by
     subst h
     have h1 := cnt_op (d := e2) hi
     rw [hops] at h1
     simp [slotsO, cntN] at h1
     omega
    have htk2 : takes all e2 i := ⟨o, hi, by rw [hops]; simp⟩
    have hone2 := hm.one e2 _ hs2 rfl
    have hopn2 : openX all listed e2 := fun j hj => by rw [takes_one hone2 hj htk2]; exact hun
    obtain ⟨p1, p2, p3, p4⟩ := hm.own e2 _ ty2 k2 rows2 hs2 rfl hopn2
    rw [tagV_row hk2] at p2
    rw [tagB_row E hk2] at p3
    have hn2 : nthH st'.h (ι e2) = .row ty2 ((k2 - 1) / 2) rows2 (k2 % 2 == 1) := by rw [nthH_eq, List.getD_eq_getElem?_getD, p3]; rfl
    refine ⟨[ι e2], by rw [tmp p2]; simp only [srcR, hn2], .inr ⟨_, rfl⟩, fun n hn => ?_⟩
    have hn : n = ι e2 := by simpa using hn
    subst hn
    refine ⟨fun h => hne (hm.inj e2 e1 _ _ hs2 rfl hs1 rfl hopn2 hopn1 h), p1, fun e s q1 q2 q3 q4 => ?_⟩
    have := hm.inj e e2 s _ q1 q2 hs2 rfl (open_mono q3).1 hopn2 q4
    subst this
    exact (open_mono q3).2 htk2
 have hfree1 : ∀ e s, st.t[e]? = some s → tagS s = true → openX all (listed.setIfInBounds i true) e → ι e ≠ ι e1 := fun e s q1 q2 q3 q4 => by
  have := hm.inj e e1 s _ q1 q2 hs1 rfl (open_mono q3).1 hopn1 q4
  subst this
  exact (open_mono q3).2 htk1
 have hid : ι e1 ∉ ids := fun h => (hfree _ h).1 rfl
 have hmem : memN (ι e1) ids = false := by
  cases hq : memN (ι e1) ids with
  | false => rfl
  | true => exact (hid ((memN_iff _ _).1 hq)).elim
 generalize hst2 : (⟨st'.t.map (killS (ι e1)), setH ((goneH (frzH st'.h ids) ids).map (killB (ι e1))) (ι e1) (.row ty (E.T (E.T t).elem).size (rows ++ rows2) ((kk % 2 == 1) && lin2))⟩ : St) = st2
 have g2 : ∀ n, n ≠ ι e1 → n ∉ ids → st2.h[n]? = (st'.h[n]?).map (killB (ι e1)) := fun n hn hni => by
  subst hst2
  simp only [setH_eq]
  rw [List.getElem?_set, if_neg (fun e => hn e.symm), List.getElem?_map, goneF_get hids n hni]
 refine tag_ok hT hE hr hK (ι := ι) (st := st) (tg := .o (.w ty (2 * (E.T (E.T t).elem).size + (if (kk % 2 == 1) && lin2 then 1 else 2)) (rows ++ rows2))) ?_ hk
 have hv : vcAppend E t (ev st' (.tmp e1)) (ev st' x) st' fun st2' s => st2' = st2 ∧ s = .o (.s (ι e1)) := by
  unfold vcAppend
  rw [hsrc, hev1]
  refine ⟨h1, h2, b4, ?_⟩
  simp only [hn1]
  refine ⟨b2, b3, hmem, b5, b6, ?_, trivial⟩
  rw [← hst2, b3]
 rw [ho]
 simp only [vcOp, vcCall, hc, ha, hty]
 refine ⟨trivial, ?_⟩
 have hgoal : ∀ st2' s, (st2' = st2 ∧ s = .o (.s (ι e1))) → ∃ d n, o.dst = some d ∧ s = tagV (.o (.w ty (2 * (E.T (E.T t).elem).size + (if (kk % 2 == 1) && lin2 then 1 else 2)) (rows ++ rows2))) n ∧ MatX E all (listed.setIfInBounds i true) (st.put (some d) (.o (.w ty (2 * (E.T (E.T t).elem).size + (if (kk % 2 == 1) && lin2 then 1 else 2)) (rows ++ rows2)))) (st2'.put (some d) (tagV (.o (.w ty (2 * (E.T (E.T t).elem).size + (if (kk % 2 == 1) && lin2 then 1 else 2)) (rows ++ rows2))) n)) (fun e => if e = d then n else ι e) := by
  rintro st2' s ⟨rfl, rfl⟩
  have hnz : 2 * (E.T (E.T t).elem).size + (if (kk % 2 == 1) && lin2 then 1 else 2) ≠ 0 := by split <;> omega
  refine ⟨d, ι e1, hd, (tagV_row hnz).symm, ?_⟩
  obtain ⟨hx, hh⟩ := hm.hx
  refine hm.put_tag i rfl (by rw [← hst2]; simp) ⟨st2'.h.drop st.h.length, ?_⟩ hcnt (fun h => (hnz h).elim) (fun e s q1 q2 => ?_) (fun e s q1 q2 q3 => ?_) o1 ?_
  ·have ht : st2'.h.take st.h.length = st.h := by
    apply List.ext_getElem?
    intro n
    rw [List.getElem?_take]
    by_cases hn : n < st.h.length
    ·rw [if_pos hn, g2 n (by omega) (fun h => by have := (hfree n h).2.1; omega), hh, List.getElem?_append_left hn, List.getElem?_eq_getElem hn]
     simp only [Option.map_some]
     rw [killB_below (List.all_eq_true.1 hm.hb _ (List.getElem_mem hn)) o1]
    ·rw [if_neg hn, List.getElem?_eq_none (by omega)]
   conv => lhs; rw [← List.take_append_drop st.h.length st2'.h]
   rw [ht]
  ·rw [← hst2]
   simp only [List.getElem?_map, q1, Option.map_some]
   rw [killS_below q2 o1]
  ·obtain ⟨ty', k', rs', hw'⟩ := tagS_inv q2
   obtain ⟨p1, p2, p3, p4⟩ := hm.own e s ty' k' rs' q1 hw' (open_mono q3).1
   have hne := hfree1 e _ q1 q2 q3
   refine ⟨?_, ?_, hne⟩
   ·rw [← hst2]
    simp only [List.getElem?_map, p2, Option.map_some]
    rw [kill_tagV q2 hne]
   ·rw [g2 _ hne (fun h => (hfree _ h).2.2 e _ q1 q2 q3 rfl), p3]
    simp only [Option.map_some]
    rw [killB_tag p4]
  ·rw [tagB_lin, ← hst2]
   simp only [setH_eq]
   rw [List.getElem?_set, if_pos rfl, if_pos (by simp [goneF_len hids]; exact hlt1)]
 have mono : ∀ {k k' : St → SV → Prop}, (∀ a b, k a b → k' a b) → vcAppend E t (ev st' (.tmp e1)) (ev st' x) st' k → vcAppend E t (ev st' (.tmp e1)) (ev st' x) st' k' := fun {k k'} hkk h => by
  unfold vcAppend at h ⊢
  refine ⟨h.1, h.2.1, ?_⟩
  have h := h.2.2
  split at h
  ·refine ⟨h.1, ?_⟩
   have h := h.2
   split at h
   ·split at h
    ·obtain ⟨q1, q2, q3, q4, q5, q6⟩ := h
     exact ⟨q1, q2, q3, q4, q5, hkk _ _ q6⟩
    ·exact h.elim
   ·exact ⟨h.1, h.2.1, hkk _ _ h.2.2⟩
   ·exact h.elim
  ·exact h.elim
 exact mono hgoal hv
theorem vcX_ok (hT : TyOK E.P E.T) (hE : ∀ t, E.eqk t ≠ [] → EqT E.P t (E.eqk t)) (hi : all[i]? = some o) (hun : listed.getD i true = false) (hr : Rel E.C g V st' a w) (hm : MatX E all listed st st' ι) (hK : ∀ st a w, RelX E all (listed.setIfInBounds i true) st a w → K st → K' a w)
    (h : vcX E (usesL all) o.op (ev st) st.h fun s => chkX all o st.h.length s ∧ K (st.put o.dst s)) : o.wp E.P a w K' Q := by
 unfold vcX at h
 split at h
 ·rename_i x ho
  exact move_ok hT hE hi hun hr hm hK (x := x) (fun k hk => by rw [ho]; exact hk) (by rw [ho]; simp [useL, opL]) h.1 h.2
 ·rename_i x ho
  exact move_ok hT hE hi hun hr hm hK (x := x) (fun k hk => by rw [ho]; exact hk) (by rw [ho]; simp [useL, opL]) h.1 h.2
 ·rename_i t len parts ho
  obtain ⟨h1, h2, h3, h4, h⟩ := h
  split at h
  ·rename_i rows hp
   obtain ⟨hu, hch, hk⟩ := h
   obtain ⟨d, hd, hcnt⟩ := chk_tag hch rfl
   obtain ⟨css, c1, c2, c3⟩ := partsV_C hm hp
   refine tag_ok hT hE hr hK (ι := ι) (st := st) ?_ hk
   rw [ho]
   simp only [vcOp]
   refine ⟨h1, h2, h3, h4, ?_⟩
   rw [c1]
   simp only [c2, frzH, goneH, c3]
   refine ⟨rfl, hu, d, st'.h.length, hd, (tagV_row (by omega)).symm, ?_⟩
   have := hm.push i (d := d) (ty := (E.T t).elem) (k := 2 * (E.T (E.T t).elem).size + 1) (rows := rows) (tg := .o (.w (E.T t).elem (2 * (E.T (E.T t).elem).size + 1) rows)) rfl hcnt (fun h => by omega)
   rw [tagB_own] at this
   exact this
  ·exact h.elim
 ·rename_i t ho
  obtain ⟨h1, h2, hch, hk⟩ := h
  obtain ⟨d, hd, hcnt⟩ := chk_tag hch rfl
  refine tag_ok hT hE hr hK (ι := ι) (st := st) ?_ hk
  rw [ho]
  exact ⟨h1, d, st'.h.length, hd, rfl, hm.push i (d := d) (ty := t) (k := 0) (rows := []) (tg := .o (.w t 0 [])) rfl hcnt (fun _ => h2)⟩
 ·rename_i c ho
  split at h
  ·rename_i hc
   split at h
   ·rename_i s x t t' e1 e2
    obtain ⟨rfl, h1, h2, h⟩ := h
    split at h
    ·rename_i ty kk rows es
     split at h
     ·rename_i rows2 lin2 ex
      obtain ⟨a1, a2, a3, a4, a5, a6, hch, hk⟩ := h
      exact appendX_ok hT hE hi hun hr hm hK ho hc e1 e2 h1 h2 es ex a1 a2 a3 a4 a5 a6 hch hk
     ·exact h.elim
    ·exact h.elim
   ·exact h.elim
  ·rename_i f hc
   obtain ⟨hs, h⟩ := h
   split at h
   ·rename_i fn caps ef
    obtain ⟨hb, ⟨h⟩⟩ := h
    have hopl : opL o.op = f :: c.args.toList := by rw [ho]; simp only [opL, hc]
    have hs' : (slotsO (opL o.op)).all (fun d => !tagS (ev st (.tmp d)) && (ev st (.tmp d)).below st.h.length) = true := by
     rw [List.all_eq_true]
     intro d hd
     have h1 := List.all_eq_true.1 hs d hd
     rw [h1, Bool.true_and]
     have hm' := mem_slotsO.1 hd
     rw [hopl] at hm'
     rcases List.mem_cons.1 hm' with e | hm'
     ·rw [e, ef]; rfl
     ·exact List.all_eq_true.1 hb _ (List.mem_map.2 ⟨_, hm', rfl⟩)
    rcases h with h | ⟨args', res, c1, c2, c3, ht, hch, hk⟩
    ·refine plain_ok hT hE hr hm hK hs' ?_
     rw [ho]
     unfold vcD
     simp only [hc, ef]
     exact h
    ·obtain ⟨ty, sz, rows, hw⟩ := tagS_inv ht
     have hwl := tagW_lift hw
     obtain ⟨d, hd, hcnt⟩ := chk_tag hch (tagS_of hwl)
     refine tag_ok hT hE hr hK (ι := ι) (st := st) ?_ hk
     have hx : ∀ x ∈ f :: c.args.toList, ev st x = ev st' x := fun x hx => by
      cases x with
      | tmp d =>
       have hd := List.all_eq_true.1 hs d (mem_slotsO.2 (by rw [hopl]; exact hx))
       exact (hm.ev (by simpa using hd)).symm
      | _ => rfl
     rw [ho]
     simp only [vcOp, vcCall, hc]
     rw [← hx f (by simp), ef]
     obtain ⟨hxx, hh⟩ := hm.hx
     have hargs : c.args.toList.map (ev st') = c.args.toList.map (ev st) := List.map_congr_left fun x hx' => (hx x (List.mem_cons_of_mem _ hx')).symm
     simp only [hargs]
     refine ⟨CallS.of_fn c1 ?_ c3 ?_⟩
     ·rw [← c2, hh]
      refine List.map_congr_left fun s hs => pureS_ext ?_
      rcases List.mem_append.1 hs with hs | hs
      ·exact List.all_eq_true.1 hb s hs
      ·obtain ⟨x, _, rfl⟩ := List.mem_map.1 hs; rfl
     ·obtain ⟨w1, w2⟩ := adS_tag st'.h.length hw
      refine ⟨d, st'.h.length, hd, w1, ?_⟩
      have := hm.push i (d := d) (ty := ty) (k := 2 * sz + 1) (rows := rows) hwl hcnt (fun h => by omega)
      rw [tagB_own, ← w2] at this
      exact this
   ·exact h.elim
  ·rename_i hc
   split at h
   ·rename_i d t e1 e2
    have hopl : opL o.op = [.tmp d] := by rw [ho]; simp only [opL, hc, e1]
    split at h
    ·rename_i ht
     obtain ⟨h1, h2, h⟩ := h
     obtain ⟨ty, kk, rows, e⟩ : ∃ ty kk rows, ev st (.tmp d) = .o (.w ty kk rows) := by
      revert h
      split
      ·rename_i ty kk rows e; exact fun _ => ⟨_, _, _, e⟩
      ·intro h; exact h.elim
     rw [e] at h
     obtain ⟨hkk, hch, hk⟩ := h
     obtain ⟨d', hd', hs⟩ := tag_tmp e rfl
     cases hd'
     have hopn : openX all listed d := fun j hj => by
      have := takes_pos hj
      omega
     obtain ⟨o1, o2, o3, o4⟩ := hm.own d _ ty kk rows hs rfl hopn
     rw [tagV_row hkk] at o2
     rw [tagB_row E hkk] at o3
     have hev : ev st' (.tmp d) = .o (.s (ι d)) := by
      have hl := (List.getElem?_eq_some_iff.1 o2).1
      have := nth_some hl
      rw [o2] at this
      exact (Option.some.inj this).symm
     have hn : nthH st'.h (ι d) = .row ty ((kk - 1) / 2) rows (kk % 2 == 1) := by rw [nthH_eq, List.getD_eq_getElem?_getD, o3]; rfl
     have hv : vcOp E o.op st' fun st'' s => st'' = st' ∧ s = oi rows.length := by
      rw [ho]
      simp only [vcOp, vcCall, hc, e1, e2, hev, vcLen, hn]
      exact ⟨h2, trivial, trivial⟩
     refine vcOp_ok hT hE hv hr fun g' V' st'' w' s y hr' hs' hq => ?_
     obtain ⟨rfl, rfl⟩ := hq
     exact hK _ _ _ ⟨g', V', _, ι, hr'.put o.dst hs', hm.put_plain i o.dst rfl rfl⟩ hk
    ·rename_i ht
     refine plain_ok hT hE hr hm hK ?_ h.2
     rw [hopl]
     simp only [slotsO, List.all_cons, List.all_nil, Bool.and_true, Bool.and_eq_true, Bool.not_eq_true']
     exact ⟨by simpa using ht, h.1⟩
   ·exact h.elim
  ·rename_i hc1 hc2
   refine plain_ok hT hE hr hm hK ?_ ?_
   ·exact h.1
   ·exact h.2
 ·refine plain_ok hT hE hr hm hK h.1 h.2
end
end Go.Sx
end
section
set_option linter.all false
namespace Go.Sx
open Go Go.RowKit
theorem isD0_below {c : At} {n : Nat} (h : isD0 c = true) : c.below n = true := by cases c <;> first | rfl | cases h
theorem toA {α : Type} {l : List α} {i : Nat} {x : α} (h : l[i]? = some x) : l.toArray[i]? = some x := by simpa using h
theorem Rel.pick {C : Ctx} {g : List Gh} {V : View} {st' : St} {a : Act} {w : World} (k : Rel C g V st' a w) {h0 hx : List HB} (hh : st'.h = h0 ++ hx) (hb : h0.all (·.below h0.length) = true) (ids : List Nat) (hnd : ids.Nodup) (bs : List HB) (hbs : bs.length = ids.length)
    (hid : ∀ (m id : Nat) (b : HB), ids[m]? = some id → bs[m]? = some b → h0.length ≤ id ∧ st'.h[id]? = some b ∧ (∀ ty cs, b = .box ty cs → cs.all isD0 = true)) (t : List SV) (hlen : t.length = st'.t.length)
    (ht : ∀ (d : Nat) (s : SV), t[d]? = some s → s = .o .u ∨ (st'.t[d]? = some s ∧ s.below h0.length = true) ∨ ∃ m id, ids[m]? = some id ∧ ((st'.t[d]? = some (.o (.s id)) ∧ s = .o (.s (h0.length + m))) ∨ (st'.t[d]? = some (.o (.p id 0)) ∧ s = .o (.p (h0.length + m) 0)) ∨ (∃ cs x, tagC cs = some x ∧ st'.t[d]? = some (.g (putW id cs)) ∧ s = .g (putW (h0.length + m) cs)))) :
    ∃ g', Rel C g' V ⟨t, h0 ++ bs⟩ a w := by
 have hgl : g.length = st'.h.length := k.hp.glen
 let dum : Gh := ⟨none, undef, [], []⟩
 let g' : List Gh := g.take h0.length ++ ids.map (fun id => g.getD id dum)
 have hle : h0.length ≤ g.length := by rw [hgl, hh]; simp
 have htl : (g.take h0.length).length = h0.length := by simp; omega
 have gold : ∀ n, n < h0.length → g'[n]? = g[n]? := fun n hn => by
  show (g.take h0.length ++ _)[n]? = _
  rw [List.getElem?_append_left (by omega), List.getElem?_take, if_pos hn]
 have hold : ∀ n, n < h0.length → (h0 ++ bs)[n]? = st'.h[n]? := fun n hn => by
  rw [List.getElem?_append_left hn, hh, List.getElem?_append_left hn]
 have gnew : ∀ m id, ids[m]? = some id → g'[h0.length + m]? = g[id]? := fun m id hm => by
  show (g.take h0.length ++ _)[_]? = _
  rw [List.getElem?_append_right (by omega), htl, Nat.add_sub_cancel_left, List.getElem?_map, hm]
  have hml : m < ids.length := (List.getElem?_eq_some_iff.1 hm).1
  obtain ⟨_, h2, _⟩ := hid m id _ hm (List.getElem?_eq_getElem (by omega))
  have hl : id < g.length := by rw [hgl]; exact (List.getElem?_eq_some_iff.1 h2).1
  simp [List.getD_eq_getElem?_getD, List.getElem?_eq_getElem hl]
 have key : ∀ (n : Nat) (b : HB) (x : Gh), (h0 ++ bs)[n]? = some b → g'[n]? = some x → ∃ id, st'.h[id]? = some b ∧ g[id]? = some x ∧ ((n < h0.length ∧ id = n) ∨ ∃ m, n = h0.length + m ∧ ids[m]? = some id) := fun n b x h1 h2 => by
  rcases Nat.lt_or_ge n h0.length with hn | hn
  ·exact ⟨n, by rw [← hold n hn]; exact h1, by rw [← gold n hn]; exact h2, .inl ⟨hn, rfl⟩⟩
  ·obtain ⟨m, rfl⟩ : ∃ m, n = h0.length + m := ⟨n - h0.length, by omega⟩
   rw [List.getElem?_append_right hn, Nat.add_sub_cancel_left] at h1
   have hm : m < ids.length := by have := (List.getElem?_eq_some_iff.1 h1).1; omega
   have hi := List.getElem?_eq_getElem hm
   obtain ⟨_, q2, _⟩ := hid m _ b hi h1
   exact ⟨_, q2, by rw [← gnew m _ hi]; exact h2, .inr ⟨m, rfl, hi⟩⟩
 have same : ∀ {n n' id : Nat}, ((n < h0.length ∧ id = n) ∨ ∃ m, n = h0.length + m ∧ ids[m]? = some id) → ((n' < h0.length ∧ id = n') ∨ ∃ m, n' = h0.length + m ∧ ids[m]? = some id) → n = n' := by
  intro n n' id p q
  have low : ∀ m, ids[m]? = some id → h0.length ≤ id := fun m hm => by
   have hml : m < ids.length := (List.getElem?_eq_some_iff.1 hm).1
   exact (hid m id _ hm (List.getElem?_eq_getElem (by omega))).1
  rcases p with ⟨p1, rfl⟩ | ⟨m, rfl, p2⟩
  ·rcases q with ⟨q1, q2⟩ | ⟨m', rfl, q2⟩
   ·exact q2
   ·have := low m' q2; omega
  ·rcases q with ⟨q1, rfl⟩ | ⟨m', rfl, q2⟩
   ·have := low m p2; omega
   ·have h1 : m < ids.length := (List.getElem?_eq_some_iff.1 p2).1
    have h2 : m' < ids.length := (List.getElem?_eq_some_iff.1 q2).1
    have : m = m' := (List.getElem?_inj h1 hnd).1 (p2.trans q2.symm)
    subst this; rfl
 have cAtB : ∀ {x : At} {y : Value}, cAt g V x y → x.below h0.length = true → cAt g' V x y := fun {x y} h hb => by
  cases x with
  | p id off => obtain ⟨gh, b, h1, h2, h3⟩ := h; exact ⟨gh, b, by rw [gold id (by simpa [At.below] using hb)]; exact h1, h2, h3⟩
  | r id sz i fo => obtain ⟨gh, b, h1, h2, h3⟩ := h; exact ⟨gh, b, by rw [gold id (by simpa [At.below] using hb)]; exact h1, h2, h3⟩
  | s id => obtain ⟨gh, h1, h2, h3⟩ := h; exact ⟨gh, by rw [gold id (by simpa [At.below] using hb)]; exact h1, h2, h3⟩
  | e id sz i fo => obtain ⟨gh, a, n, c, h1, h2, h3⟩ := h; exact ⟨gh, a, n, c, by rw [gold id (by simpa [At.below] using hb)]; exact h1, h2, h3⟩
  | n id sz i fo => obtain ⟨gh, h1, h2, h3⟩ := h; exact ⟨gh, by rw [gold id (by simpa [At.below] using hb)]; exact h1, h2, h3⟩
  | u => trivial
  | d x => exact h
  | z => exact h
  | q cs => exact h
  | f fn caps => exact h
  | w ty sz rows => exact h.elim
 have cLB : ∀ {cs : List At} {l : List Value}, cL g V cs l → cs.all (·.below h0.length) = true → cL g' V cs l := fun {cs l} h hb =>
  ⟨h.1, fun j c y h1 h2 => cAtB (h.2 j c y h1 h2) (List.all_eq_true.1 hb c (List.mem_of_getElem? h1))⟩
 have cSVB : ∀ {s : SV} {y : Value}, cSV g V s y → s.below h0.length = true → cSV g' V s y := fun {s y} h hb => by
  cases s with
  | o a => exact cAtB h hb
  | g cs => obtain ⟨l, h1, h2⟩ := h; exact ⟨l, h1, cLB h2 hb⟩
  | t l =>
   obtain ⟨ys, h1, h2, h3⟩ := h
   refine ⟨ys, h1, h2, fun k b cs v hk hl => ?_⟩
   have hc : cs.all (·.below h0.length) = true := List.all_eq_true.1 hb _ (List.mem_of_getElem? hk)
   have := h3 k b cs v hk hl
   cases b
   ·simp only [Bool.false_eq_true, if_false] at this ⊢; exact cLB this hc
   ·simp only [if_true] at this ⊢; obtain ⟨m, e, hm⟩ := this; exact ⟨m, e, cLB hm hc⟩
 refine ⟨g', ⟨by rw [k.sl.size, hlen], fun d s y h1 h2 => ?_, k.sl.defers⟩, ⟨?_, ?_, ?_, ?_, ?_, ?_⟩, k.mod, k.fr, k.vw⟩
 ·rcases ht d s h1 with rfl | ⟨q1, q2⟩ | ⟨m, id, q0, q | q | ⟨cs, x, q3, q4, q5⟩⟩
  ·trivial
  ·exact cSVB (k.sl.slot d s y q1 h2) q2
  ·obtain ⟨q1, rfl⟩ := q
   obtain ⟨gh, e1, e2, e3⟩ := k.sl.slot d _ y q1 h2
   exact ⟨gh, by rw [gnew m id q0]; exact e1, e2, e3⟩
  ·obtain ⟨q1, rfl⟩ := q
   obtain ⟨gh, b, e1, e2, e3⟩ := k.sl.slot d _ y q1 h2
   exact ⟨gh, b, by rw [gnew m id q0]; exact e1, e2, e3⟩
  ·subst q5
   obtain ⟨l, e1, e2, e3⟩ := k.sl.slot d _ y q4 h2
   refine ⟨l, e1, by rw [e2, putW_len, putW_len], fun j c v hj hl => ?_⟩
   rcases putW_get q3 _ j c hj with ⟨p1, p2⟩ | ⟨p1, p2⟩
   ·exact cAtB (e3 j c v (p2 id) hl) (isD0_below p1)
   ·subst p1
    obtain ⟨gh, f1, f2, f3⟩ := e3 j _ v (p2 id) hl
    exact ⟨gh, by rw [gnew m id q0]; exact f1, f2, f3⟩
 ·show (g.take h0.length ++ ids.map _).length = _
  rw [List.length_append, htl, List.length_map, List.length_append, hbs]
 ·intro n b x h1 h2
  obtain ⟨id, q1, q2, q3⟩ := key n b x h1 h2
  have hok := k.hp.hb id b x q1 q2
  cases b with
  | box ty cs =>
   obtain ⟨bk, l, f1, f2, f3⟩ := hok
   refine ⟨bk, l, f1, f2, cLB f3 ?_⟩
   rcases q3 with ⟨hn, rfl⟩ | ⟨m, _, hm⟩
   ·have h0n : h0[id]? = some (.box ty cs) := by rw [List.getElem?_append_left hn] at h1; exact h1
    exact List.all_eq_true.1 hb _ (List.mem_of_getElem? h0n)
   ·have hml : m < ids.length := (List.getElem?_eq_some_iff.1 hm).1
    obtain ⟨_, p2, p3⟩ := hid m id _ hm (List.getElem?_eq_getElem (by omega))
    rw [q1] at p2
    have := p3 ty cs (Option.some.inj p2).symm
    rw [List.all_eq_true] at this ⊢
    exact fun c hc => isD0_below (this c hc)
  | row ty sz rows lin => exact hok
  | frz rows lin => exact hok
  | gone => trivial
  | own tag sz rows => exact hok
 ·intro n b x h1 h2
  obtain ⟨id, q1, q2, _⟩ := key n b x h1 h2
  exact k.hp.nd id b x q1 q2
 ·intro n m b b' x x' hnm h1 h2 h3 h4 v hv
  obtain ⟨id, q1, q2, q3⟩ := key n b x h1 h2
  obtain ⟨id', p1, p2, p3⟩ := key m b' x' h3 h4
  exact k.hp.dj id id' b b' x x' (fun e => hnm (by subst e; exact same q3 p3)) q1 q2 p1 p2 v hv
 ·intro n b x h1 h2 v hv
  obtain ⟨id, q1, q2, _⟩ := key n b x h1 h2
  exact k.hp.lo id b x q1 q2 v hv
 ·intro n b x h1 h2 v hv
  obtain ⟨id, q1, q2, _⟩ := key n b x h1 h2
  exact k.hp.rt id b x q1 q2 v hv
def finT (E : Env) (us : List Nat) : Nat → Nat → List SV → List SV × List HB
 | _, _, [] => ([], [])
 | i, n, s :: r => match tagW s with
  | some (ty, k, rows) => if memN i us then (.o .u :: (finT E us (i + 1) n r).1, (finT E us (i + 1) n r).2) else (tagV s n :: (finT E us (i + 1) (n + 1) r).1, tagB E ty k rows :: (finT E us (i + 1) (n + 1) r).2)
  | none => (s :: (finT E us (i + 1) n r).1, (finT E us (i + 1) n r).2)
def idsT (ι : Nat → Nat) (us : List Nat) : Nat → List SV → List Nat
 | _, [] => []
 | i, s :: r => match tagW s with
  | some _ => if memN i us then idsT ι us (i + 1) r else ι i :: idsT ι us (i + 1) r
  | none => idsT ι us (i + 1) r
theorem tagS_no {s : SV} (h : tagS s = false) : tagW s = none := by
 cases hw : tagW s with
 | none => rfl
 | some x => rw [tagS_of hw] at h; cases h
theorem finT_cons {E : Env} {us : List Nat} {i n : Nat} {s : SV} {r : List SV} (h : tagS s = false) : finT E us i n (s :: r) = (s :: (finT E us (i + 1) n r).1, (finT E us (i + 1) n r).2) := by
 simp only [finT, tagS_no h]
theorem idsT_cons {ι : Nat → Nat} {us : List Nat} {i : Nat} {s : SV} {r : List SV} (h : tagS s = false) : idsT ι us i (s :: r) = idsT ι us (i + 1) r := by
 simp only [idsT, tagS_no h]
theorem finT_ok (E : Env) (us : List Nat) (ι : Nat → Nat) : ∀ (l : List SV) (i n : Nat),
    (finT E us i n l).1.length = l.length ∧ (finT E us i n l).2.length = (idsT ι us i l).length ∧
    (∀ (p : Nat) (s : SV), (finT E us i n l).1[p]? = some s → s = .o .u ∨ (l[p]? = some s ∧ tagS s = false) ∨ ∃ x ty k rows m, l[p]? = some x ∧ tagW x = some (ty, k, rows) ∧ memN (i + p) us = false ∧ (idsT ι us i l)[m]? = some (ι (i + p)) ∧ s = tagV x (n + m)) ∧
    (∀ (m id : Nat) (b : HB), (idsT ι us i l)[m]? = some id → (finT E us i n l).2[m]? = some b → ∃ p x ty k rows, l[p]? = some x ∧ tagW x = some (ty, k, rows) ∧ memN (i + p) us = false ∧ id = ι (i + p) ∧ b = tagB E ty k rows)
 | [], i, n => ⟨rfl, rfl, fun p s h => by simp [finT] at h, fun m id b h => by simp [idsT] at h⟩
 | s :: r, i, n => by
  cases hs : tagS s with
  | false =>
   obtain ⟨h1, h2, h3, h4⟩ := finT_ok E us ι r (i + 1) n
   rw [finT_cons hs, idsT_cons hs]
   refine ⟨by simp [h1], h2, fun p x hp => ?_, fun m id b q1 q2 => ?_⟩
   ·cases p with
    | zero => simp at hp; subst hp; exact .inr (.inl ⟨rfl, hs⟩)
    | succ p =>
     rcases h3 p x (by simpa using hp) with h | h | ⟨z, ty, k, rows, m, e1, e0, e2, e3, e4⟩
     ·exact .inl h
     ·exact .inr (.inl (by simpa using h))
     ·exact .inr (.inr ⟨z, ty, k, rows, m, by simpa using e1, e0, by rw [← Nat.add_assoc, Nat.add_right_comm]; exact e2, by rw [← Nat.add_assoc, Nat.add_right_comm]; exact e3, e4⟩)
   ·obtain ⟨p, z, ty, k, rows, e1, e0, e2, e3, e4⟩ := h4 m id b q1 q2
    exact ⟨p + 1, z, ty, k, rows, by simpa using e1, e0, by rw [← Nat.add_assoc, Nat.add_right_comm]; exact e2, by rw [← Nat.add_assoc, Nat.add_right_comm]; exact e3, e4⟩
  | true =>
   obtain ⟨ty, k, rows, hw⟩ := tagS_inv hs
   cases hu : memN i us with
   | true =>
    obtain ⟨h1, h2, h3, h4⟩ := finT_ok E us ι r (i + 1) n
    simp only [finT, idsT, hw, hu, if_true]
    refine ⟨by simp [h1], h2, fun p x hp => ?_, fun m id b q1 q2 => ?_⟩
    ·cases p with
     | zero => simp at hp; exact .inl hp.symm
     | succ p =>
      rcases h3 p x (by simpa using hp) with h | h | ⟨z, ty, k, rows, m, e1, e0, e2, e3, e4⟩
      ·exact .inl h
      ·exact .inr (.inl (by simpa using h))
      ·exact .inr (.inr ⟨z, ty, k, rows, m, by simpa using e1, e0, by rw [← Nat.add_assoc, Nat.add_right_comm]; exact e2, by rw [← Nat.add_assoc, Nat.add_right_comm]; exact e3, e4⟩)
    ·obtain ⟨p, z, ty, k, rows, e1, e0, e2, e3, e4⟩ := h4 m id b q1 q2
     exact ⟨p + 1, z, ty, k, rows, by simpa using e1, e0, by rw [← Nat.add_assoc, Nat.add_right_comm]; exact e2, by rw [← Nat.add_assoc, Nat.add_right_comm]; exact e3, e4⟩
   | false =>
    obtain ⟨h1, h2, h3, h4⟩ := finT_ok E us ι r (i + 1) (n + 1)
    simp only [finT, idsT, hw, hu, Bool.false_eq_true, if_false]
    refine ⟨by simp [h1], by simp [h2], fun p x hp => ?_, fun m id b q1 q2 => ?_⟩
    ·cases p with
     | zero => simp at hp; subst hp; exact .inr (.inr ⟨s, ty, k, rows, 0, rfl, hw, by simpa using hu, by simp, by simp⟩)
     | succ p =>
      rcases h3 p x (by simpa using hp) with h | h | ⟨z, ty', k', rows', m, e1, e0, e2, e3, e4⟩
      ·exact .inl h
      ·exact .inr (.inl (by simpa using h))
      ·exact .inr (.inr ⟨z, ty', k', rows', m + 1, by simpa using e1, e0, by rw [← Nat.add_assoc, Nat.add_right_comm]; exact e2, by rw [← Nat.add_assoc, Nat.add_right_comm]; simpa using e3, by rw [e4]; congr 1; omega⟩)
    ·cases m with
     | zero => simp at q1 q2; exact ⟨0, s, ty, k, rows, rfl, hw, by simpa using hu, by simp [← q1], q2.symm⟩
     | succ m =>
      obtain ⟨p, z, ty', k', rows', e1, e0, e2, e3, e4⟩ := h4 m id b (by simpa using q1) (by simpa using q2)
      exact ⟨p + 1, z, ty', k', rows', by simpa using e1, e0, by rw [← Nat.add_assoc, Nat.add_right_comm]; exact e2, by rw [← Nat.add_assoc, Nat.add_right_comm]; exact e3, e4⟩
theorem idsT_mem (ι : Nat → Nat) (us : List Nat) : ∀ (l : List SV) (i : Nat) (x : Nat), x ∈ idsT ι us i l → ∃ p s, l[p]? = some s ∧ tagS s = true ∧ memN (i + p) us = false ∧ x = ι (i + p)
 | [], _, _, h => by simp [idsT] at h
 | s :: r, i, x, h => by
  have next : x ∈ idsT ι us (i + 1) r → ∃ p s', (s :: r)[p]? = some s' ∧ tagS s' = true ∧ memN (i + p) us = false ∧ x = ι (i + p) := fun h => by
   obtain ⟨p, s', e1, e2, e3, e4⟩ := idsT_mem ι us r (i + 1) x h
   exact ⟨p + 1, s', by simpa using e1, e2, by rw [← Nat.add_assoc, Nat.add_right_comm]; exact e3, by rw [← Nat.add_assoc, Nat.add_right_comm]; exact e4⟩
  cases hs : tagS s with
  | false => rw [idsT_cons hs] at h; exact next h
  | true =>
   obtain ⟨ty, k, rows, hw⟩ := tagS_inv hs
   simp only [idsT, hw] at h
   split at h
   ·exact next h
   ·rename_i hu
    rcases List.mem_cons.1 h with rfl | h
    ·exact ⟨0, _, rfl, hs, by simpa using hu, by simp⟩
    ·exact next h
theorem idsT_nodup (ι : Nat → Nat) (us : List Nat) : ∀ (l : List SV) (i : Nat), (∀ p q s s', l[p]? = some s → tagS s = true → l[q]? = some s' → tagS s' = true → memN (i + p) us = false → memN (i + q) us = false → ι (i + p) = ι (i + q) → p = q) → (idsT ι us i l).Nodup
 | [], _, _ => by simp [idsT]
 | s :: r, i, h => by
  have hr := idsT_nodup ι us r (i + 1) fun p q s1 s2 e1 e2 e3 e4 e5 e6 e7 => by
   have := h (p + 1) (q + 1) s1 s2 (by simpa using e1) e2 (by simpa using e3) e4 (by rw [← Nat.add_assoc, Nat.add_right_comm]; exact e5) (by rw [← Nat.add_assoc, Nat.add_right_comm]; exact e6) (by rw [← Nat.add_assoc, Nat.add_right_comm, ← Nat.add_assoc i q, Nat.add_right_comm i q]; exact e7)
   omega
  cases hs : tagS s with
  | false => rw [idsT_cons hs]; exact hr
  | true =>
   obtain ⟨ty, k, rows, hw⟩ := tagS_inv hs
   simp only [idsT, hw]
   split
   ·exact hr
   ·rename_i hu
    refine List.nodup_cons.2 ⟨fun hm => ?_, hr⟩
    obtain ⟨p, s', e1, e2, e3, e4⟩ := idsT_mem ι us r (i + 1) _ hm
    have := h 0 (p + 1) _ s' rfl hs (by simpa using e1) e2 (by simpa using hu) (by rw [← Nat.add_assoc, Nat.add_right_comm]; exact e3) (by rw [← Nat.add_assoc, Nat.add_right_comm]; simpa using e4)
    omega
def isStX (o : Oper) : Bool := match o.op with
 | .store .. => true
 | _ => false
def bodyX : List Oper → List Oper
 | [] => []
 | o :: r => if isStX o then [] else o :: bodyX r
def tailX : List Oper → List Oper
 | [] => []
 | o :: r => if isStX o then o :: r else tailX r
theorem bodyX_eq : ∀ l : List Oper, bodyX l = l.take (bodyX l).length ∧ tailX l = l.drop (bodyX l).length
 | [] => ⟨rfl, rfl⟩
 | o :: r => by
  obtain ⟨h1, h2⟩ := bodyX_eq r
  unfold bodyX tailX
  split
  ·exact ⟨rfl, rfl⟩
  ·exact ⟨by simp only [List.length_cons, List.take_succ_cons]; rw [← h1], by simp only [List.length_cons, List.drop_succ_cons]; exact h2⟩
def finX (E : Env) (all : List Oper) (st : St) : St := ⟨(finT E (usesL (bodyX all)) 0 st.h.length st.t).1, st.h ++ (finT E (usesL (bodyX all)) 0 st.h.length st.t).2⟩
theorem uses_takes {all : List Oper} {d j : Nat} {m : Nat} (hj : j < m) (h : takes all d j) : memN d (usesL (all.take m)) = true := by
 obtain ⟨o, h1, h2⟩ := h
 have : takes (all.take m) d j := ⟨o, by rw [List.getElem?_take, if_pos hj]; exact h1, h2⟩
 have := takes_pos this
 rw [memN_iff]
 generalize usesL (all.take m) = l at *
 induction l with
 | nil => simp [cntN] at this
 | cons x l ih =>
  simp only [cntN] at this
  split at this
  ·rename_i e; simp [e]
  ·simp [ih this]
section
variable {E : Env} {all : List Oper} {listed : Array Bool} {st : St} {a : Act} {w : World}
theorem finX_ok (h : RelX E all listed st a w) (ho : ∀ j, (bodyX all).length ≤ j → ∀ o, all[j]? = some o → listed.getD j true = false) : ∃ g V, Rel E.C g V (finX E all st) a w := by
 obtain ⟨g, V, st', ι, hr, hm⟩ := h
 obtain ⟨f1, f2, f3, f4⟩ := finT_ok E (usesL (bodyX all)) ι st.t 0 st.h.length
 have hopen : ∀ d, memN d (usesL (bodyX all)) = false → openX all listed d := fun d hd j hj => by
  rcases Nat.lt_or_ge j (bodyX all).length with hl | hl
  ·have := uses_takes hl hj
   rw [← (bodyX_eq all).1, hd] at this
   cases this
  ·obtain ⟨o, h1, _⟩ := hj
   exact ho j hl o h1
 obtain ⟨hx, hh⟩ := hm.hx
 obtain ⟨g', hr'⟩ := hr.pick hh hm.hb (idsT ι (usesL (bodyX all)) 0 st.t) (idsT_nodup ι _ st.t 0 fun p q s s' e1 e2 e3 e4 e5 e6 e7 => by
  simp only [Nat.zero_add] at e5 e6 e7
  exact hm.inj p q s s' e1 e2 e3 e4 (hopen p e5) (hopen q e6) e7) (finT E (usesL (bodyX all)) 0 st.h.length st.t).2 f2 (fun m id b e1 e2 => by
  obtain ⟨p, z, ty, k, rows, q1, q0, q2, q3, q4⟩ := f4 m id b e1 e2
  simp only [Nat.zero_add] at q2 q3
  obtain ⟨p1, p2, p3, p4⟩ := hm.own p z ty k rows q1 q0 (hopen p q2)
  subst q3 q4
  refine ⟨p1, p3, fun ty' cs e => ?_⟩
  unfold tagB at e
  split at e
  ·rename_i hk; cases e; exact p4 hk
  ·cases e) (finT E (usesL (bodyX all)) 0 st.h.length st.t).1 (by rw [f1, hm.len]) (fun d s e => by
  rcases f3 d s e with h | ⟨h1, h2⟩ | ⟨z, ty, k, rows, m, q1, q0, q2, q3, q4⟩
  ·exact .inl h
  ·exact .inr (.inl (hm.plain d s h1 h2))
  ·simp only [Nat.zero_add] at q2 q3
   obtain ⟨p1, p2, p3, p4⟩ := hm.own d z ty k rows q1 q0 (hopen d q2)
   refine .inr (.inr ⟨m, ι d, q3, ?_⟩)
   subst q4
   cases z with
   | o a =>
    cases a <;> simp only [tagW] at q0 <;> first | cases q0 | skip
    unfold tagV at p2 ⊢
    simp only at p2 ⊢
    split
    ·rename_i hk; rw [if_pos hk] at p2; exact .inr (.inl ⟨p2, rfl⟩)
    ·rename_i hk; rw [if_neg hk] at p2; exact .inl ⟨p2, rfl⟩
   | g cs => exact .inr (.inr ⟨cs, _, q0, p2, rfl⟩)
   | t l => cases q0)
 exact ⟨g', V, hr'⟩
theorem sopX_ok (hT : TyOK E.P E.T) (hE : ∀ t, E.eqk t ≠ [] → EqT E.P t (E.eqk t)) {o : Oper} {K : St → Prop} {K' : Act → World → Prop} {Q : Exit → Act → World → Prop} {i : Nat} (hi : all[i]? = some o) (hun : listed.getD i true = false)
    (hr : RelX E all listed st a w) (hK : ∀ st a w, RelX E all (listed.setIfInBounds i true) st a w → K st → K' a w) (h : sopX E all o st K) : wpOp E.P all.toArray Q i K' a w := by
 obtain ⟨g, V, st', ι, hr, hm⟩ := hr
 unfold wpOp
 have hi' : all.toArray[i]? = some o := by simpa using hi
 simp only [hi']
 have hno : K (st.put o.dst (.t [])) → K' (a.put o.dst undef) w := fun hk => hK _ _ _ ⟨g, V, _, ι, hr.put o.dst (undef_ok g V), hm.put_plain i o.dst rfl rfl⟩ hk
 unfold sopX at h
 split at h
 ·rename_i hgd
  simp only [Region.wanted, hgd, if_true]
  exact .inl (vcX_ok hT hE hi hun hr hm hK h)
 ·rename_i j b hgd
  unfold vcGuard at h
  split at h
  ·rename_i c e
   have hy := (yielded_ok hr.sl all j c).1 (by rw [hm.dst (by rw [e]; rfl)]; exact e)
   simp only [Region.wanted, hgd, hy]
   by_cases hcb : c = b
   ·subst hcb
    simp only [beq_self_eq_true, if_true]
    obtain ⟨h0, h⟩ := h.1 rfl
    refine .inl (plain_ok hT hE hr hm hK h0 ?_)
    obtain ⟨s, k1, k2⟩ := vcD_det h
    exact k2 (fun s => chkX all o st.h.length s ∧ K (st.put o.dst s)) ⟨by unfold chkX; rw [if_neg (by rw [k1.1.1]; simp)]; exact k1.1.2, k1.2⟩
   ·have hne : (some c == some b) = false := by simpa using hcb
    rw [hne]
    simp only [Bool.false_eq_true, if_false]
    exact hno (h.2 (bnot hcb))
  ·rename_i e
   have hy := (yielded_ok hr.sl all j true).2 (by rw [hm.dst (by rw [e]; rfl)]; exact e)
   simp only [Region.wanted, hgd, hy]
   have hne : ((none : Option Bool) == some b) = false := rfl
   rw [hne]
   simp only [Bool.false_eq_true, if_false]
   exact hno h
  ·exact h.elim
def reachX (md : Region.Mode) (all : List Oper) : Nat → Nat → Nat → Bool
 | 0, _, _ => false
 | n + 1, i, j => match all[i]? with
  | some o => (o.after.any fun e => Region.binds md e && e.on == j) || (o.after.any fun e => Region.binds md e && reachX md all n e.on j)
  | none => false
theorem reachX_spec {md : Region.Mode} {listed : Array Bool} (hdc : ∀ (j : Nat) (o : Oper), all[j]? = some o → listed.getD j false = true → ∀ e ∈ o.after, Region.binds md e = true → listed.getD e.on false = true) :
    ∀ (n i j : Nat), (∀ o, all[i]? = some o → ∀ e ∈ o.after, Region.binds md e = true → listed.getD e.on false = true) → reachX md all n i j = true → listed.getD j false = true
 | 0, _, _, _, h => by cases h
 | n + 1, i, j, hi, h => by
  unfold reachX at h
  split at h
  ·rename_i o ho
   rcases Bool.or_eq_true_iff.1 h with h | h
   ·obtain ⟨e, he, hb⟩ := Array.any_eq_true'.1 h
    simp only [Bool.and_eq_true, beq_iff_eq] at hb
    rw [← hb.2]; exact hi o ho e he hb.1
   ·obtain ⟨e, he, hb⟩ := Array.any_eq_true'.1 h
    simp only [Bool.and_eq_true] at hb
    exact reachX_spec hdc n e.on j (fun o' ho' => hdc e.on o' ho' (hi o ho e he hb.1)) hb.2
  ·cases h
def backX (md : Region.Mode) (all : List Oper) (m : Nat) : Bool := (List.range all.length).all fun i => match all[i]? with
 | some o => (o.after.all fun e => !Region.binds md e || decide (e.on < i)) && (decide (i < m) || (List.range i).all fun j => if j < m then reachX md all 4 i j else o.after.any fun e => Region.binds md e && e.on == j)
 | none => true
theorem backX_spec {md : Region.Mode} {m i : Nat} {o : Oper} (h : backX md all m = true) (hi : all[i]? = some o) : (∀ e ∈ o.after, Region.binds md e = true → e.on < i) ∧ (m ≤ i → ∀ j, m ≤ j → j < i → ∃ e ∈ o.after, Region.binds md e = true ∧ e.on = j) ∧ (m ≤ i → ∀ j, j < m → reachX md all 4 i j = true) := by
 have h1 := List.all_eq_true.1 h i (List.mem_range.2 (List.getElem?_eq_some_iff.1 hi).1)
 simp only [hi, Bool.and_eq_true, Array.all_eq_true_iff_forall_mem, Bool.or_eq_true, Bool.not_eq_true', decide_eq_true_eq] at h1
 refine ⟨fun e he hb => ?_, fun hm j hmj hj => ?_, fun hm j hj => ?_⟩
 ·rcases h1.1 e he with h | h
  ·rw [hb] at h; cases h
  ·exact h
 ·rcases h1.2 with h | h
  ·omega
  ·have := List.all_eq_true.1 h j (List.mem_range.2 hj)
   rw [if_neg (by omega)] at this
   obtain ⟨e, he, hb⟩ := Array.any_eq_true'.1 this
   simp only [Bool.and_eq_true, beq_iff_eq] at hb
   exact ⟨e, he, hb.1, hb.2⟩
 ·rcases h1.2 with h | h
  ·omega
  ·have := List.all_eq_true.1 h j (List.mem_range.2 (by omega))
   rwa [if_pos hj] at this
theorem tail_run {md : Region.Mode} {P : Program} {Q : Exit → Act → World → Prop} {m : Nat} (hback : backX md all m = true) : ∀ (l : List Oper) (k : Nat) (listed : Array Bool) (a : Act) (w : World), l = all.drop k → m ≤ k → (∀ j, j < k → listed.getD j true = true) → (∀ j, j < k → listed.getD j false = true) → (∀ j, k ≤ j → j < all.length → listed.getD j true = false) →
    wpList P all.toArray Q l a w → ∀ fuel, l.length ≤ fuel → wpAny P md all.toArray Q fuel listed a w
 | [], k, listed, a, w, hl, hm, hd, hd', hu, h, fuel, _ => by
  have hk : all.length ≤ k := by
   have := congrArg List.length hl
   simp at this
   omega
  refine wpAny_done ?_ h fuel
  refine List.eq_nil_iff_forall_not_mem.2 fun i hi => ?_
  obtain ⟨h1, o, h2, _⟩ := mem_ready.1 hi
  have hlt : i < all.length := by simpa using (Array.getElem?_eq_some_iff.1 h2).1
  rw [hd i (by omega)] at h1
  cases h1
 | o :: r, k, listed, a, w, hl, hm, hd, hd', hu, h, fuel, hf => by
  have hk : all[k]? = some o := by
   have h0 : (all.drop k)[0]? = some o := by rw [← hl]; rfl
   rwa [List.getElem?_drop, Nat.add_zero] at h0
  have hkl := (List.getElem?_eq_some_iff.1 hk).1
  have hk' : all.toArray[k]? = some o := by simpa using hk
  have hready : k ∈ Region.ready md all.toArray listed := mem_ready.2 ⟨hu k (Nat.le_refl _) hkl, o, hk', fun e he hb => hd' e.on ((backX_spec hback hk).1 e he hb)⟩
  have honly : ∀ i ∈ Region.ready md all.toArray listed, i = k := fun i hi => by
   obtain ⟨h1, o', h2, h3⟩ := mem_ready.1 hi
   have h2' : all[i]? = some o' := by simpa using h2
   have hlt := (List.getElem?_eq_some_iff.1 h2').1
   rcases Nat.lt_trichotomy i k with hik | hik | hik
   ·rw [hd i hik] at h1; cases h1
   ·exact hik
   ·obtain ⟨e, he, hb, heq⟩ := (backX_spec hback h2').2.1 (by omega) k hm hik
    have := h3 e he hb
    rw [heq] at this
    have h0 := hu k (Nat.le_refl _) hkl
    have hsz : listed.getD k true = listed.getD k false := by
     rcases Nat.lt_or_ge k listed.size with h' | h'
     ·simp [h']
     ·simp [Array.getElem?_eq_none h'] at h0
    rw [hsz, this] at h0; cases h0
  obtain ⟨f, rfl⟩ : ∃ f, fuel = f + 1 := ⟨fuel - 1, by simp at hf; omega⟩
  have hsize : k < listed.size := by
   rcases Nat.lt_or_ge k listed.size with h' | h'
   ·exact h'
   ·have := hu k (Nat.le_refl _) hkl; simp [Array.getElem?_eq_none h'] at this
  have next : ∀ a w, wpList P all.toArray Q r a w → wpAny P md all.toArray Q f (listed.setIfInBounds k true) a w := fun a w hw =>
   tail_run hback r (k + 1) _ a w (by rw [← List.drop_drop, ← hl]; rfl) (by omega)
    (fun j hj => by
     by_cases e : k = j
     ·subst e; exact getD_set_self k
     ·rw [getD_set_ne true e]; exact hd j (by omega))
    (fun j hj => by
     by_cases e : k = j
     ·subst e; simp [hsize]
     ·rw [getD_set_ne false e]; exact hd' j (by omega))
    (fun j hj hjl => by rw [getD_set_ne true (by omega)]; exact hu j (by omega) hjl) hw f (by simp at hf; omega)
  refine ⟨fun h0 => (by rw [h0] at hready; cases hready), fun i hi => ?_⟩
  have hik := honly i hi
  subst hik
  unfold wpOp
  simp only [hk']
  simp only [wpList] at h
  split
  ·rename_i hw
   rw [if_pos hw] at h
   exact h.imp (Oper.wp_mono next) id
  ·rename_i hw
   rw [if_neg hw] at h
   exact next _ _ h
theorem wpAny_of_X (hT : TyOK E.P E.T) (hE : ∀ t, E.eqk t ≠ [] → EqT E.P t (E.eqk t)) {md : Region.Mode} {m : Nat} {K : St → Prop} {Q : Exit → Act → World → Prop} (hm : m ≤ all.length) (hback : backX md all m = true)
    (hQ : ∀ listed st a w, (∀ j, m ≤ j → j < all.length → listed.getD j true = false) → RelX E all listed st a w → K st → wpList E.P all.toArray Q (all.drop m) a w) :
    ∀ (fuel : Nat) (listed : Array Bool) (st : St) (a : Act) (w : World), listed.size = all.length → (∀ (j : Nat) (o : Oper), all[j]? = some o → listed.getD j false = true → ∀ e ∈ o.after, Region.binds md e = true → listed.getD e.on false = true) → (∀ j, m ≤ j → j < all.length → listed.getD j true = false) → RelX E all listed st a w → wpAnyX E md all m K fuel listed st → wpAny E.P md all.toArray Q (fuel + (all.length - m)) listed a w := by
 intro fuel
 induction fuel with
 | zero =>
  intro listed st a w hsz hdc hu hr h
  have hall : ∀ j, j < m → listed.getD j false = true := by
   intro j
   induction j using Nat.strongRecOn with
   | _ j ih =>
    intro hj
    cases hq : listed.getD j false with
    | true => rfl
    | false =>
     have hjl : j < listed.size := by omega
     have hjr : j ∈ Region.ready md all.toArray listed := by
      have ho : all[j]? = some (all[j]'(by omega)) := List.getElem?_eq_getElem _
      refine mem_ready.2 ⟨by simp [hjl] at hq ⊢; exact hq, _, toA ho, fun e he hb => ?_⟩
      have := (backX_spec hback ho).1 e he hb
      exact ih e.on this (by omega)
     have := h.1 j hjr
     omega
  have hall' : ∀ j, j < m → listed.getD j true = true := fun j hj => by
   have := hall j hj
   have hjl : j < listed.size := by omega
   simp [hjl] at this ⊢; exact this
  exact tail_run hback _ m listed a w rfl (Nat.le_refl _) hall' hall hu (hQ listed st a w hu hr h.2) _ (by simp)
 | succ fuel ih =>
  intro listed st a w hsz hdc hu hr h
  by_cases hb : ∀ i ∈ Region.ready md all.toArray listed, m ≤ i
  ·have hall : ∀ j, j < m → listed.getD j false = true := by
    intro j
    induction j using Nat.strongRecOn with
    | _ j ih =>
     intro hj
     cases hq : listed.getD j false with
     | true => rfl
     | false =>
      have hjl : j < listed.size := by omega
      have hjr : j ∈ Region.ready md all.toArray listed := by
       have ho : all[j]? = some (all[j]'(by omega)) := List.getElem?_eq_getElem _
       refine mem_ready.2 ⟨by simp [hjl] at hq ⊢; exact hq, _, toA ho, fun e he hb => ?_⟩
       have := (backX_spec hback ho).1 e he hb
       exact ih e.on this (by omega)
      have := hb j hjr
      omega
   have hall' : ∀ j, j < m → listed.getD j true = true := fun j hj => by
    have := hall j hj
    have hjl : j < listed.size := by omega
    simp [hjl] at this ⊢; exact this
   exact tail_run hback _ m listed a w rfl (Nat.le_refl _) hall' hall hu (hQ listed st a w hu hr (h.1 hb)) _ (by simp)
  ·obtain ⟨i0, hi0, hlt0⟩ : ∃ i, i ∈ Region.ready md all.toArray listed ∧ i < m := by
    apply Classical.byContradiction
    intro hn
    exact hb fun i hi => Nat.le_of_not_lt fun hlt => hn ⟨i, hi, hlt⟩
   have low : ∀ i ∈ Region.ready md all.toArray listed, i < m := fun i hi => by
    rcases Nat.lt_or_ge i m with h' | h'
    ·exact h'
    ·obtain ⟨_, o, ho, hafter⟩ := mem_ready.1 hi
     have ho' : all[i]? = some o := by simpa using ho
     have h1 := reachX_spec hdc 4 i i0 (fun o2 ho2 => by rw [ho'] at ho2; cases ho2; exact hafter) ((backX_spec hback ho').2.2 h' i0 hlt0)
     have h0 := (mem_ready.1 hi0).1
     have hil : i0 < listed.size := by omega
     simp [hil] at h0 h1
     rw [h0] at h1; cases h1
   rw [Nat.add_right_comm]
   refine ⟨fun h0 => (by rw [h0] at hi0; cases hi0), fun i hi => ?_⟩
   obtain ⟨hun, o, ho, haft⟩ := mem_ready.1 hi
   have hlt := low i hi
   refine sopX_ok hT hE (by simpa using ho) hun hr (fun st2 a2 w2 hr2 h2 => ?_) (h.2 i hi hlt o ho)
   have keep : ∀ j, listed.getD j false = true → (listed.setIfInBounds i true).getD j false = true := fun j hj => by
    by_cases e : i = j
    ·subst e
     rcases Nat.lt_or_ge i listed.size with hl | hl
     ·simp [hl]
     ·simp [Array.getElem?_eq_none hl] at hj
    ·rwa [getD_set_ne false e]
   refine ih _ st2 a2 w2 (by simp [hsz]) (fun j o2 ho2 hl e he hbb => ?_) (fun j hj hjl => by rw [getD_set_ne true (by omega)]; exact hu j hj hjl) hr2 h2
   by_cases e2 : i = j
   ·subst e2
    have h3 : all[i]? = some o := by simpa using ho
    rw [h3] at ho2
    cases ho2
    exact keep _ (haft e he hbb)
   ·rw [getD_set_ne false e2] at hl
    exact keep _ (hdc j o2 ho2 hl e he hbb)
theorem RelX.start {g : List Gh} {V : View} (hr : Rel E.C g V st a w) (hok : st.okB = true) (htag : (st.t.all fun s => !tagS s) = true) : RelX E all listed st a w := by
 unfold St.okB at hok
 rw [Bool.and_eq_true] at hok
 have nt : ∀ {d : Nat} {s : SV}, st.t[d]? = some s → tagS s = true → False := fun {d s} h1 h2 => by
  have := List.all_eq_true.1 htag s (List.mem_of_getElem? h1)
  rw [h2] at this; cases this
 exact ⟨g, V, st, fun _ => 0, hr, rfl, ⟨[], by simp⟩, hok.2, fun d s h1 _ => ⟨h1, List.all_eq_true.1 hok.1 s (List.mem_of_getElem? h1)⟩, fun d s h1 h2 => (nt h1 h2).elim, fun d s ty k rows h1 ht _ => (nt h1 (tagS_of ht)).elim, fun d e s s' h1 h2 => (nt h1 h2).elim⟩
theorem WP_drawX (hT : TyOK E.P E.T) (hE : ∀ t, E.eqk t ≠ [] → EqT E.P t (E.eqk t)) (hm : E.P.follows .mixedOrders = true) {id : Nat} {ops : List Oper} {F : Ex → St → Prop} {st : St} (hB : lexX .any ops (bodyX ops).length (bodyX ops).length 0 (Array.replicate ops.length false) = true)
    (hback : backX .any ops (bodyX ops).length = true) (hok : st.okB = true) (htag : (st.t.all fun s => !tagS s) = true) (h : vcXs E ops (bodyX ops) st fun st' => vcOps E ops (tailX ops) (finX E ops st') (F .normal)) : WP E.P E.C (.region id ops.toArray true) F st := fun g V a w hr => by
 have hle : (bodyX ops).length ≤ ops.length := by
  have := congrArg List.length (bodyX_eq ops).1
  simp at this
  omega
 refine wp_region_any hm ?_
 have hX := wpAnyX_lex (E := E) (md := .any) (all := ops) (m := (bodyX ops).length) (bodyX ops) 0 (Array.replicate ops.length false) st (fun j o hj => by
  have hlt := (List.getElem?_eq_some_iff.1 hj).1
  rw [(bodyX_eq ops).1, List.getElem?_take, if_pos hlt] at hj
  simpa using hj) hB h
 have hn : (bodyX ops).length + (ops.length - (bodyX ops).length) = ops.toArray.size := by simp; omega
 have := wpAny_of_X (E := E) (all := ops) hT hE (Q := fun e a w => Post E.C F e a w) hle hback (fun listed st' a' w' hu hr' hk => by
  obtain ⟨g2, V2, hr2⟩ := finX_ok hr' (fun j hj o ho => hu j hj (List.getElem?_eq_some_iff.1 ho).1)
  rw [(bodyX_eq ops).2] at hk
  exact vcOps_ok hT hE (fun g V st _ _ hr h => ⟨g, V, st, hr, h⟩) hk hr2) _ _ st a { w with drawn := w.drawn + 1 } (by simp) (fun j o _ hl => by rcases Nat.lt_or_ge j ops.length with h' | h' <;> simp [h'] at hl) (fun j hj hjl => by simp [hjl]) (RelX.start hr.drawn hok htag) hX
 rw [hn] at this
 exact this
end
end Go.Sx
end
section
set_option linter.all false
namespace Go.Sx
open Go Go.RowKit
structure vcRun (E : Env) (all l : List Oper) (st : St) (K : St → Prop) (t : Tie (all, l, K)) : Prop where
 out : vcOps E all l st K
def vcStep (E : Env) (all : List Oper) (o : Oper) (st : St) (k : St → Prop) (_ : Tie k) : Prop :=
 match o.guard with
 | none => vcOp E o.op st fun st' s => k (st'.put o.dst s)
 | some (j, b) => vcGuard (dstOf all j st) b (vcOp E o.op st fun st' s => k (st'.put o.dst s)) (k (st.put o.dst (.t []))) ⟨⟩ ⟨⟩
theorem run_cons {E : Env} {all r : List Oper} {o : Oper} {st : St} {K : St → Prop} (h : vcStep E all o st (fun st' => vcRun E all r st' K ⟨⟩) ⟨⟩) : vcRun E all (o :: r) st K ⟨⟩ := by
 have e : (fun st' => vcRun E all r st' K ⟨⟩) = (fun st' => vcOps E all r st' K) := funext fun s => propext ⟨fun h => h.out, fun h => ⟨h⟩⟩
 rw [e] at h
 unfold vcStep at h
 refine ⟨?_⟩
 unfold vcOps
 cases hg : o.guard with
 | none => rw [hg] at h; exact h
 | some jb => rw [hg] at h; exact h
theorem run_nil {E : Env} {all : List Oper} {st : St} {K : St → Prop} (h : K st) : vcRun E all [] st K ⟨⟩ := ⟨h⟩
structure vcDRun (E : Env) (all l : List Oper) (st : St) (K : St → Prop) (t : Tie (all, l, K)) : Prop where
 out : vcDs E all l st K
def vcDStep (E : Env) (all : List Oper) (o : Oper) (st : St) (k : St → Prop) (_ : Tie k) : Prop := sop E all o st k
theorem drun_cons {E : Env} {all r : List Oper} {o : Oper} {st : St} {K : St → Prop} (h : vcDStep E all o st (fun st' => vcDRun E all r st' K ⟨⟩) ⟨⟩) : vcDRun E all (o :: r) st K ⟨⟩ := by
 have e : (fun st' => vcDRun E all r st' K ⟨⟩) = (fun st' => vcDs E all r st' K) := funext fun s => propext ⟨fun h => h.out, fun h => ⟨h⟩⟩
 rw [e] at h
 exact ⟨h⟩
theorem drun_nil {E : Env} {all : List Oper} {st : St} {K : St → Prop} (h : K st) : vcDRun E all [] st K ⟨⟩ := ⟨h⟩
structure vcXRun (E : Env) (all l : List Oper) (st : St) (K : St → Prop) (t : Tie (all, l, K)) : Prop where
 out : vcXs E all l st K
def vcXStep (E : Env) (all : List Oper) (o : Oper) (st : St) (k : St → Prop) (_ : Tie k) : Prop := sopX E all o st k
theorem xrun_cons {E : Env} {all r : List Oper} {o : Oper} {st : St} {K : St → Prop} (h : vcXStep E all o st (fun st' => vcXRun E all r st' K ⟨⟩) ⟨⟩) : vcXRun E all (o :: r) st K ⟨⟩ := by
 have e : (fun st' => vcXRun E all r st' K ⟨⟩) = (fun st' => vcXs E all r st' K) := funext fun s => propext ⟨fun h => h.out, fun h => ⟨h⟩⟩
 rw [e] at h
 exact ⟨h⟩
theorem xrun_nil {E : Env} {all : List Oper} {st : St} {K : St → Prop} (h : K st) : vcXRun E all [] st K ⟨⟩ := ⟨h⟩
structure vcXEnd (E : Env) (all : List Oper) (st : St) (K : St → Prop) (t : Tie (all, K)) : Prop where
 out : vcOps E all (tailX all) (finX E all st) K
theorem xend {E : Env} {all l : List Oper} {st s : St} {K : St → Prop} (hl : tailX all = l) (hs : finX E all st = s) (h : vcRun E all l s K ⟨⟩) : vcXEnd E all st K ⟨⟩ := by
 subst hl; subst hs; exact ⟨h.out⟩
theorem all_tt {α : Type} (l : List α) : (l.all fun _ => true) = true := by simp
attribute [go_sem] buildR vcDBuild Nat.reduceLeDiff Nat.le_refl bndR vcDSlice Option.toList_some Option.toList_none vcStep vcDStep vcXStep sopX vcX chkX tagS tagW tagC isSm putW liftC liftS slotsO opL useL usesL cntN cellV cellsV valV partsV rowsV finT finX bodyX isStX tagV tagB isD0 all_tt Nat.reduceMod Nat.reduceDiv Nat.reduceMul Bool.and_self Bool.and_false Bool.false_and
theorem uni_nil (sz : Nat) : uni sz [] := fun _ h => by cases h
theorem uni_cons (sz : Nat) (r : List D) (l : List (List D)) : uni sz (r :: l) ↔ r.length = sz ∧ uni sz l := by simp [uni]
theorem uni_append (sz : Nat) (l l' : List (List D)) : uni sz (l ++ l') ↔ uni sz l ∧ uni sz l' := by simp only [uni, List.mem_append]; exact ⟨fun h => ⟨fun r hr => h r (.inl hr), fun r hr => h r (.inr hr)⟩, fun h r hr => hr.elim (h.1 r) (h.2 r)⟩
theorem uni_map {α : Type} (sz : Nat) (f : α → List D) (l : List α) : uni sz (l.map f) ↔ ∀ x ∈ l, (f x).length = sz := by simp [uni]
theorem flatB_nil : flatB [] = true := rfl
theorem flatB_cons (r : List D) (l : List (List D)) : flatB (r :: l) = (r.all isV && flatB l) := rfl
theorem flatB_append (l l' : List (List D)) : flatB (l ++ l') = (flatB l && flatB l') := by simp [flatB]
theorem flatB_map {α : Type} (f : α → List D) (l : List α) : flatB (l.map f) = l.all (fun x => (f x).all isV) := by simp [flatB, List.all_map, Function.comp_def]
attribute [go_sem] uni_nil uni_cons uni_append uni_map flatB_nil flatB_cons flatB_append flatB_map
theorem rwAt_map {α : Type} (f : α → List D) (l : List α) (k : Nat) (h : k < l.length) : rwAt (l.map f) k = f l[k] := by
 simp [rwAt, List.getD_eq_getElem?_getD, h]
def fillR {α : Type} (enc : α → List D) (z : List D) (l : List α) (k : Nat) : List (List D) := (l.take k).map enc ++ List.replicate (l.length - k) z
theorem fillR_length {α : Type} (enc : α → List D) (z : List D) (l : List α) (k : Nat) : (fillR enc z l k).length = l.length := by
 simp [fillR]; omega
theorem rwAt_fillR {α : Type} (enc : α → List D) (z : List D) (l : List α) (k : Nat) (h : k < l.length) : rwAt (fillR enc z l k) k = z := by
 have h1 : ((l.take k).map enc).length = k := by simp; omega
 simp only [rwAt, fillR, List.getD_eq_getElem?_getD]
 rw [List.getElem?_append_right (by omega), h1]
 have h2 : 0 < l.length - k := by omega
 simp [List.getElem?_replicate, h2]
theorem fillR_set {α : Type} (enc : α → List D) (z : List D) (l : List α) (k : Nat) (h : k < l.length) : (fillR enc z l k).set k (enc l[k]) = fillR enc z l (k + 1) := by
 have h1 : ((l.take k).map enc).length = k := by simp; omega
 have h2 : l.length - k = (l.length - (k + 1)) + 1 := by omega
 simp only [fillR]
 rw [List.set_append_right _ _ (by omega), h1, Nat.sub_self, h2, List.replicate_succ, List.set_cons_zero, List.take_succ_eq_append_getElem h, List.map_append, List.append_assoc]
 rfl
theorem fillR_zero {α : Type} (enc : α → List D) (z : List D) (l : List α) : fillR enc z l 0 = List.replicate l.length z := by simp [fillR]
theorem fillR_all {α : Type} (enc : α → List D) (z : List D) (l : List α) : fillR enc z l l.length = l.map enc := by simp [fillR]
attribute [go_sem] fillR_length rwAt_fillR
@[congr] theorem kont_congr {P : Program} {C : Ctx} {ks : List Kn} {F : Ex → St → Prop} {e : Ex} {st st' : St} (h : st = st') : kont P C ks F e st = kont P C ks F e st' := by subst h; rfl
@[congr] theorem WP_congr {P : Program} {C : Ctx} {c : Code} {F : Ex → St → Prop} {st st' : St} (h : st = st') : WP P C c F st = WP P C c F st' := by subst h; rfl
theorem vcGuard_tt (y n : Prop) (a : Tie y) (b : Tie n) : vcGuard (.o (.d (.v (.bool true)))) true y n a b = y := by simp [vcGuard]
theorem vcGuard_tf (y n : Prop) (a : Tie y) (b : Tie n) : vcGuard (.o (.d (.v (.bool true)))) false y n a b = n := by simp [vcGuard]
theorem vcGuard_ft (y n : Prop) (a : Tie y) (b : Tie n) : vcGuard (.o (.d (.v (.bool false)))) true y n a b = n := by simp [vcGuard]
theorem vcGuard_ff (y n : Prop) (a : Tie y) (b : Tie n) : vcGuard (.o (.d (.v (.bool false)))) false y n a b = y := by simp [vcGuard]
theorem vcGuard_u (b : Bool) (y n : Prop) (a : Tie y) (c : Tie n) : vcGuard (.t []) b y n a c = n := by simp [vcGuard]
theorem vcPick_t (y n : Prop) (a : Tie y) (b : Tie n) : vcPick (.o (.d (.v (.bool true)))) y n a b = y := by simp [vcPick]
theorem vcPick_f (y n : Prop) (a : Tie y) (b : Tie n) : vcPick (.o (.d (.v (.bool false)))) y n a b = n := by simp [vcPick]
attribute [go_sem] vcGuard_tt vcGuard_tf vcGuard_ft vcGuard_ff vcGuard_u vcPick_t vcPick_f
theorem nodup_N : ∀ l : List Nat, l.Nodup ↔ nodupN l = true
 | [] => by simp [nodupN]
 | x :: l => by
  rw [List.nodup_cons, nodup_N l, ← memN_iff]
  simp [nodupN]
attribute [go_sem] Bool.or_false Bool.false_or Bool.or_true Bool.true_or bytesR strOf rowsOf vcConvS Nat.reduceBNe Array.toList_empty nodup_N
theorem cnd_t {E : Env} {c : Operand} {x y : Code} {F : Ex → St → Prop} {st : St} (hc : ev st c = .o (.d (.v (.bool true)))) (h : WP E.P E.C x F st) : WP E.P E.C (.cond c x y) F st := WP_cond (E := E) hc (fun _ => h) (fun e => by cases e)
theorem cnd_f {E : Env} {c : Operand} {x y : Code} {F : Ex → St → Prop} {st : St} (hc : ev st c = .o (.d (.v (.bool false)))) (h : WP E.P E.C y F st) : WP E.P E.C (.cond c x y) F st := WP_cond (E := E) hc (fun e => by cases e) (fun _ => h)
theorem byteAt_le (s : ByteArray) (k : Nat) : 0 ≤ byteAt s k ∧ byteAt s k ≤ 255 := by
 unfold byteAt
 have := (s.data.toList.getD k 0).toNat_lt
 omega
theorem szlit (l : List UInt8) : (ByteArray.mk l.toArray).size = l.length := rfl
attribute [go_sem] Int.reduceEq Int.reduceLT Int.reduceLE Int.reduceAdd Int.reduceSub Int.reduceMul Int.reduceNeg Int.reduceToNat decide_false List.size_toArray Nat.reducePow szlit ByteArray.size_append idsS true_implies false_implies implies_true Bool.true_eq_false maxLen decide_true isD sop vcD dsO dsts fgt mds mhs loopI List.toList_toArray idsL frzH goneH absA absL memN nodupN isV partsC absR vcBuildSlice killA killS killB srcR vcAppend vcMake vcStoreRow capD capA capS capB capAll vcMakeFunc
attribute [go_sem] vcOp dstOf vcStoreOwn nthO vcLoad vcStore vcFieldAddr vcField vcIndexAddr vcIndex vcBin vcBinN vcNil binI binSt binB vcUn vcConv bnd vcSlice vcSliceS vcExtract vcLen vcMax buildC vcBuild vcCall
 ev constSV nth setN nthH setH nthP sub splice St.put St.push pack SV.cells boxable noU At.isU Ty.agg eqAs eqA eqV kindA kindV inR rwAt_map
 retVs retV resL retAs retA wIds notOne pureS pureA adS adA adH adT SV.all freeS freeA leT leH St.le loopK swL swG swS swA swB swN List.getElem?_cons_zero List.getElem?_cons_succ List.set_cons_zero List.set_cons_succ St.okB SV.below At.below HB.below
 List.length_cons List.length_nil List.length_map List.nil_append List.cons_append List.append_nil List.map_cons List.map_nil List.drop_succ_cons List.drop_zero List.flatMap_cons List.flatMap_nil List.all_cons List.all_nil
 List.replicate_succ List.replicate_zero Option.map_some Option.map_none Option.bind_some Option.bind_none Option.some.injEq
 Nat.reduceAdd Nat.reduceSub Nat.reduceEqDiff Nat.reduceBEq Nat.reduceLT Nat.zero_add Nat.add_zero Int.toNat_natCast
 ne_eq not_false_eq_true true_and and_true reduceCtorEq ite_true ite_false Bool.and_true Bool.true_and Bool.not_true Bool.not_false Bool.false_eq_true reduceIte if_true if_false beq_self_eq_true
def mkL {α : Type} (mk : α → Int → α) (cn : α → Nat) : List α → Int → List α
 | [], _ => []
 | x :: l, k => mk x k :: mkL mk cn l (k + cn x)
def csum {α : Type} (cn : α → Nat) : List α → Nat
 | [] => 0
 | x :: l => cn x + csum cn l
theorem mkL_length {α : Type} (mk : α → Int → α) (cn : α → Nat) : ∀ (l : List α) (k : Int), (mkL mk cn l k).length = l.length
 | [], _ => rfl
 | x :: l, k => by simp [mkL, mkL_length mk cn l]
theorem mkL_get {α : Type} (mk : α → Int → α) (cn : α → Nat) : ∀ (l : List α) (k : Int) (j : Nat) (h : j < (mkL mk cn l k).length), (mkL mk cn l k)[j] = mk (l[j]'(by rw [mkL_length] at h; exact h)) (k + (csum cn (l.take j) : Nat))
 | [], _, _, h => by simp [mkL] at h
 | x :: l, k, 0, h => by simp [mkL, csum]
 | x :: l, k, j + 1, h => by
  simp only [mkL, List.getElem_cons_succ, List.take_succ_cons, csum]
  rw [mkL_get mk cn l]
  congr 1
  omega
def midR {α : Type} (enc : α → List D) (mk : α → Int → α) (cn : α → Nat) (l : List α) (k : Int) (j : Nat) : List (List D) := ((mkL mk cn l k).take j).map enc ++ (l.drop j).map enc
theorem midR_length {α : Type} (enc : α → List D) (mk : α → Int → α) (cn : α → Nat) (l : List α) (k : Int) (j : Nat) : (midR enc mk cn l k j).length = l.length := by
 simp [midR, mkL_length]; omega
theorem rwAt_midR {α : Type} (enc : α → List D) (mk : α → Int → α) (cn : α → Nat) (l : List α) (k : Int) (j : Nat) (h : j < l.length) : rwAt (midR enc mk cn l k j) j = enc l[j] := by
 have h1 : (((mkL mk cn l k).take j).map enc).length = j := by simp [mkL_length]; omega
 simp only [rwAt, midR, List.getD_eq_getElem?_getD]
 rw [List.getElem?_append_right (by omega), h1]
 simp [h]
theorem rwAt_set (rows : List (List D)) (j : Nat) (r : List D) (h : j < rows.length) : rwAt (rows.set j r) j = r := by
 simp [rwAt, List.getD_eq_getElem?_getD, h]
attribute [go_sem] List.flatten_cons List.flatten_nil midR_length rwAt_midR rwAt_set mkL_length mkL_get List.length_set List.set_set pureOS pureO isWS adG mrkOK markH isG shp preH stM adSb partOK partH
end Go.Sx
end
