/- Joined texts. -/
import Derived.Test.YtlmpmpddakhfnaaDoorZ03
import Derived.Deep.Quiet
set_option linter.all false
section
section
set_option linter.all false
namespace Go.Sx
open Go Go.RowKit
def xM : List Oper → Nat → Option Oper
 | [], _ => none
 | x :: _, 0 => some x
 | _ :: xs, n + 1 => xM xs n
theorem mV (l : List Oper) (n : Nat) : xM l n = l[n]? := by
 induction l generalizing n with
 | nil => rfl
 | cons x xs ih => cases n with
  | zero => rfl
  | succ n => simpa [xM] using ih n
def iY (all : List Oper) (j : Nat) (st : St) : SV :=
 match xM all j with
 | some o => match o.dst with
  | some d => nth st.t d
  | none => .o .u
 | none => .o .u
def bW (s : SV) (b : Bool) (yes no : Prop) (_ : Tie yes) (_ : Tie no) : Prop :=
 match s with
 | .o (.d (.v (.bool c))) => (c = b → yes) ∧ (c = !b → no)
 | .t [] => no
 | _ => False
def jN (E : Env) (all : List Oper) : List Oper → St → (St → Prop) → Prop
 | [], st, K => K st
 | o :: r, st, K => match o.guard with
  | none => bC E o.op st fun st' s => jN E all r (st'.put o.dst s) K
  | some (j, b) => bW (iY all j st) b (bC E o.op st fun st' s => jN E all r (st'.put o.dst s) K) (jN E all r (st.put o.dst (.t [])) K) ⟨⟩ ⟨⟩
section
variable {E : Env}
theorem kF {g : List Gh} {V : View} {st : St} {a : Act} (h : Sl g V st.t a) (all : List Oper) (j : Nat) (c : Bool) :
    (iY all j st = .o (.d (.v (.bool c))) → yielded all.toArray a.tmps j = some c) ∧ (iY all j st = .t [] → yielded all.toArray a.tmps j = none) := by
 unfold iY yielded
 rw [mV]
 cases ho : all[j]? with
 | none => simp
 | some o =>
  have h1 : all.toArray[j]? = some o := by simpa using ho
  simp only [h1, Option.bind_some]
  cases hd : o.dst with
  | none => simp
  | some d =>
   simp only [Option.bind_some]
   have hev := aY h (.tmp d)
   simp only [ev, Act.eval] at hev
   constructor
   ·intro e
    rw [e] at hev
    obtain ⟨hv, _⟩ := aG hev
    rcases Nat.lt_or_ge d a.tmps.size with hl | hl
    ·have e1 : a.tmps.getD d undef = a.tmps[d] := by simp [Array.getD, hl]
     rw [Array.getElem?_eq_getElem hl, ← e1, hv]
    ·have e1 : a.tmps.getD d undef = undef := by simp [Array.getD, Nat.not_lt.2 hl]
     rw [e1] at hv; cases hv
   ·intro e
    rw [e] at hev
    obtain ⟨ys, hv, hl0, _⟩ := hev
    rcases Nat.lt_or_ge d a.tmps.size with hl | hl
    ·have e1 : a.tmps.getD d undef = a.tmps[d] := by simp [Array.getD, hl]
     rw [Array.getElem?_eq_getElem hl, ← e1, hv]
    ·rw [Array.getElem?_eq_none hl]
theorem a3k (hT : TyOK E.P E.T) (hE : ∀ t, E.eqk t ≠ [] → EqT E.P t (E.eqk t)) {all : List Oper} {Q : Exit → Act → World → Prop} {K : St → Prop} (hQ : ∀ g V st a w, Rel E.C g V st a w → K st → Q .normal a w) :
    ∀ {l : List Oper} {st : St} {g : List Gh} {V : View} {a : Act} {w : World}, jN E all l st K → Rel E.C g V st a w → wpList E.P all.toArray Q l a w := by
 intro l
 induction l with
 | nil => intro st g V a w h hr; exact hQ g V st a w hr h
 | cons o r ih =>
  intro st g V a w h hr
  simp only [jN] at h
  cases hgd : o.guard with
  | none =>
   rw [hgd] at h
   refine wpList_plain hgd fun K' hK' => ?_
   exact gM hT hE h hr fun g' V' st' w' s y hr' hs hk => hK' _ _ (ih hk (hr'.put o.dst hs))
  | some jb =>
   obtain ⟨j, b⟩ := jb
   rw [hgd] at h
   simp only [bW] at h
   refine wpList_step fun K' hK' => ?_
   have hno : jN E all r (st.put o.dst (.t [])) K → K' (a.put o.dst undef) w := fun hk => hK' _ _ (ih hk (hr.put o.dst (eU g V)))
   have hyes : bC E o.op st (fun st' s => jN E all r (st'.put o.dst s) K) → o.wp E.P a w K' Q := fun hk =>
    gM hT hE hk hr fun g' V' st' w' s y hr' hs hk => hK' _ _ (ih hk (hr'.put o.dst hs))
   split at h
   ·rename_i c e
    have hy := (kF hr.sl all j c).1 e
    simp only [Region.wanted, hgd, hy]
    by_cases hcb : c = b
    ·subst hcb
     simp only [beq_self_eq_true, if_true]
     exact hyes (h.1 rfl)
    ·have hne : (some c == some b) = false := by simpa using hcb
     rw [hne]
     simp only [Bool.false_eq_true, if_false]
     exact hno (h.2 (by cases c <;> cases b <;> simp_all))
   ·rename_i e
    have hy := (kF hr.sl all j true).2 e
    simp only [Region.wanted, hgd, hy]
    have hne : ((none : Option Bool) == some b) = false := rfl
    rw [hne]
    simp only [Bool.false_eq_true, if_false]
    exact hno h
   ·exact h.elim
theorem a2v (hT : TyOK E.P E.T) (hE : ∀ t, E.eqk t ≠ [] → EqT E.P t (E.eqk t)) {id : Nat} {ops : List Oper} {F : Ex → St → Prop} {st : St} (h : jN E ops ops st (F .normal)) : WP E.P E.C (.region id ops.toArray false) F st :=
 fun _ _ _ _ hr => wp_region_lit (a3k hT hE (fun g V st _ _ hr h => ⟨g, V, st, hr, h⟩) h hr)
theorem a4F {c : Operand} {x y : Code} {F : Ex → St → Prop} {st : St} {b : Bool} (hc : ev st c = .o (.d (.v (.bool b)))) (h1 : b = true → WP E.P E.C x F st) (h2 : b = false → WP E.P E.C y F st) : WP E.P E.C (.cond c x y) F st := by
 intro g V a w hr
 have := aY hr.sl c
 rw [hc] at this
 obtain ⟨hv, _⟩ := aG this
 exact wp_cond_split hv (fun e => h1 e g V a w hr) (fun e => h2 e g V a w hr)
end
def Sees (C : Ctx) (st st' : St) : Prop := ∀ g V a w, Rel C g V st a w → ∃ g' V', Rel C g' V' st' a w
theorem Sees.refl (C : Ctx) (st : St) : Sees C st st := fun g V _ _ h => ⟨g, V, h⟩
theorem Sees.trans {C : Ctx} {s t u : St} (h : Sees C s t) (k : Sees C t u) : Sees C s u := fun g V a w hr => by
 obtain ⟨g', V', h'⟩ := h g V a w hr
 exact k g' V' a w h'
theorem Sees.forget {C : Ctx} {s t : St} (h : s.le t) (hb : t.okB = true) : Sees C s t := fun g V _ _ hr => ⟨_, V, hr.forget h hb⟩
theorem Sees.frz {C : Ctx} {st : St} (id : Nat) {ty sz : Nat} {rows : List (List D)} {lin : Bool} (h : bK st.h id = .row ty sz rows lin) : Sees C st ⟨st.t, setH st.h id (.frz rows lin)⟩ := fun g V a w hr => by
 obtain ⟨g', V', h1, h2, h3, h4, h5⟩ := hr.hp.frz hr.mod hr.fr.size (aB h (by simp))
 refine ⟨g', V', hr.sl.mono h1 h2, by rw [bD]; exact h4, h3, hr.fr, hr.vw.grow h2 h5⟩
theorem WP.sees {P : Program} {C : Ctx} {c : Code} {F : Ex → St → Prop} {st st' : St} (h : Sees C st st') (k : WP P C c F st') : WP P C c F st := fun g V a w hr => by
 obtain ⟨g', V', hr'⟩ := h g V a w hr
 exact k g' V' a w hr'
def a3l (E : Env) (st : St) : ResultVar → Option (Bool × List At)
 | .tmp t => match nth st.t t with
  | .o a => some (false, [a])
  | .g cs => some (true, cs)
  | .t _ => none
 | .cell t ty => match nth st.t t with
  | .o (.p id off) => match bK st.h id with
   | .box _ cs => if (E.T ty).tag = 0 then none else (sub cs off (E.T ty).size).map fun r => ((E.T ty).agg, r)
   | _ => none
  | _ => none
def retVs (E : Env) (st : St) : List ResultVar → Option (List (Bool × List At))
 | [] => some []
 | r :: rs => (a3l E st r).bind fun x => (retVs E st rs).map fun xs => x :: xs
def lK (h : List HB) : At → At → Prop
 | .d x, .d y => x = y
 | .z, .d y => y = .sl []
 | .z, .w _ _ rows => rows = []
 | .z, .m _ _ rows => rows = []
 | .s id, .d y => match bK h id with
  | .frz rows _ => y = .sl rows
  | _ => False
 | .s id, .w ty sz rows => match bK h id with
  | .row ty' sz' rows' lin => ty' = ty ∧ sz' = sz ∧ rows' = rows ∧ lin = true
  | _ => False
 | .s id, .m ty sz rows => match bK h id with
  | .row ty' sz' rows' _ => ty' = ty ∧ sz' = sz ∧ rows' = rows
  | _ => False
 | _, _ => False
def dN (h : List HB) : List At → List At → Prop
 | [], [] => True
 | [a], [b] => lK h a b
 | a :: as, b :: bs => lK h a b ∧ dN h as bs
 | _, _ => False
def nL : List At → List At → List Nat
 | .s id :: as, .w _ _ _ :: bs => id :: nL as bs
 | .s id :: as, .m _ _ _ :: bs => id :: nL as bs
 | _ :: as, _ :: bs => nL as bs
 | _, _ => []
def lL : SV → List (Bool × List At)
 | .o a => [(false, [a])]
 | .g cs => [(true, cs)]
 | .t l => l
def dP : SV → Prop
 | .t l => l.length ≠ 1
 | _ => True
structure RetOK (E : Env) (st : St) (rs : List ResultVar) (res : SV) : Prop where
 ok : ∃ l, retVs E st rs = some l ∧ l.map (fun x => (x.1, x.2.length)) = (lL res).map (fun x => (x.1, x.2.length)) ∧ dN st.h (l.flatMap (·.2)) ((lL res).flatMap (·.2)) ∧ (nL (l.flatMap (·.2)) ((lL res).flatMap (·.2))).Nodup
 one : dP res
theorem gH {h : List HB} : ∀ {as bs : List At}, dN h as bs → as.length = bs.length ∧ ∀ (k : Nat) (a b : At), as[k]? = some a → bs[k]? = some b → lK h a b
 | [], [], _ => ⟨rfl, fun k a b h => by simp at h⟩
 | [a], [b], hr => ⟨rfl, fun k a' b' h1 h2 => by
  cases k with
  | zero => simp at h1 h2; subst h1; subst h2; exact hr
  | succ k => simp at h1⟩
 | a :: a2 :: as, b :: b2 :: bs, hr => by
  obtain ⟨e, k⟩ := gH (as := a2 :: as) (bs := b2 :: bs) hr.2
  refine ⟨by simpa using e, fun i x y h1 h2 => ?_⟩
  cases i with
  | zero => simp at h1 h2; subst h1; subst h2; exact hr.1
  | succ i => exact k i x y (by simpa using h1) (by simpa using h2)
 | [_], _ :: _ :: _, hr => by simp [dN] at hr
 | _ :: _ :: _, [_], hr => by simp [dN] at hr
 | [], _ :: _, hr => by simp [dN] at hr
 | _ :: _, [], hr => by simp [dN] at hr
section
variable {E : Env} {C : Ctx} {g : List Gh} {V : View} {st : St} {a : Act} {w : World}
def goS (g : List Gh) : At → At → List Nat
 | .s id, .w _ _ _ => match g[id]? with
  | some x => x.blk.toList ++ x.tr
  | none => []
 | .s id, .m _ _ _ => match g[id]? with
  | some x => x.blk.toList
  | none => []
 | _, _ => []
def iI (g : List Gh) : List At → List At → List (List Nat)
 | a :: as, b :: bs => goS g a b :: iI g as bs
 | _, _ => []
theorem oZ (g : List Gh) : ∀ {as bs : List At}, as.length = bs.length → (iI g as bs).length = as.length
 | [], [], _ => rfl
 | a :: as, b :: bs, h => by simp [iI, oZ g (as := as) (bs := bs) (by simpa using h)]
 | [], _ :: _, h => by simp at h
 | _ :: _, [], h => by simp at h
theorem pE (g : List Gh) : ∀ {as bs : List At} {k : Nat} {a b : At}, as[k]? = some a → bs[k]? = some b → (iI g as bs)[k]? = some (goS g a b)
 | [], _, _, _, _, h, _ => by simp at h
 | _ :: _, [], _, _, _, _, h => by simp at h
 | a :: as, b :: bs, 0, x, y, h1, h2 => by simp at h1 h2; subst h1; subst h2; rfl
 | a :: as, b :: bs, k + 1, x, y, h1, h2 => by simpa [iI] using pE g (as := as) (bs := bs) (k := k) (by simpa using h1) (by simpa using h2)
theorem xN (hr : Rel C g V st a w) {x r : At} {y : Value} (h : lK st.h x r) (hy : cAt g V x y) : rAt V w r y (goS g x r) := by
 cases x with
 | d x => cases r with
  | d z => have h : x = z := h; subst h; exact ⟨rfl, hy⟩
  | _ => exact h.elim
 | z => cases r with
  | d z => have h : z = .sl [] := h; subst h; have hy : y = _ := hy; subst hy; exact ⟨rfl, [], .nil⟩
  | w ty sz rows => have h : rows = [] := h; subst h; have hy : y = _ := hy; subst hy; exact ⟨by simp, [], [], LayL.nil _, .inl ⟨⟨none, rfl⟩, rfl, rfl⟩⟩
  | m ty sz rows => have h : rows = [] := h; subst h; have hy : y = _ := hy; subst hy; exact ⟨by simp, [], [], LayL.nil _, .inl ⟨⟨none, rfl⟩, rfl, rfl⟩⟩
  | _ => exact h.elim
 | s id =>
  obtain ⟨gh, hg, hv, _⟩ := hy
  cases r with
  | d z =>
   simp only [lK] at h
   split at h
   ·rename_i rows lin e
    subst h
    obtain ⟨_, S, hl, _⟩ := hr.hp.hb id _ gh (aB e (by simp)) hg
    exact ⟨rfl, S, by rw [hv]; exact hl⟩
   ·exact h.elim
  | w ty sz rows =>
   simp only [lK] at h
   split at h
   ·rename_i ty' sz' rows' lin e
    obtain ⟨rfl, rfl, rfl, rfl⟩ := h
    have hi := aB e (by simp)
    obtain ⟨h0, ys, Ss, q1, q2, q3⟩ := hr.hp.hb id _ gh hi hg
    refine ⟨h0, ys, Ss, q1, ?_⟩
    simp only [goS, hg]
    rcases q3 with ⟨e1, e2, e3⟩ | ⟨b, cap, c, e1, e2, e3, e4, e5, e6, e7⟩
    ·subst e3
     have hss : Ss = [] := by have := q1.2.1; simpa using this
     subst hss
     obtain ⟨ao, e2⟩ := e2
     exact .inl ⟨⟨ao, by rw [hv, e2]⟩, rfl, by rw [e1, q2 rfl]; rfl⟩
    ·exact .inr ⟨b, cap, c, by rw [hv, e2], e3, e4, e5, e6, e7, hr.hp.rt id _ gh hi hg b (by simp [aK, e1]), by rw [e1, q2 rfl]; rfl⟩
   ·exact h.elim
  | m ty sz rows =>
   simp only [lK] at h
   split at h
   ·rename_i ty' sz' rows' lin e
    obtain ⟨rfl, rfl, rfl⟩ := h
    have hi := aB e (by simp)
    obtain ⟨h0, ys, Ss, q1, q2, q3⟩ := hr.hp.hb id _ gh hi hg
    refine ⟨h0, ys, Ss, q1, ?_⟩
    simp only [goS, hg]
    rcases q3 with ⟨e1, e2, e3⟩ | ⟨b, cap, c, e1, e2, e3, e4, e5, e6, e7⟩
    ·subst e3
     obtain ⟨ao, e2⟩ := e2
     exact .inl ⟨⟨ao, by rw [hv, e2]⟩, rfl, by rw [e1]; rfl⟩
    ·exact .inr ⟨b, cap, c, by rw [hv, e2], e3, e4, e5, e6, e7, hr.hp.rt id _ gh hi hg b (by simp [aK, e1]), by rw [e1]; rfl⟩
   ·exact h.elim
  | _ => exact h.elim
 | _ => cases r <;> exact h.elim
theorem pF (hr : Rel C g V st a w) : ∀ {as bs : List At}, dN st.h as bs → ∀ b ∈ (iI g as bs).flatten, ∃ id ∈ nL as bs, ∃ (x : Gh) (hb : HB), st.h[id]? = some hb ∧ g[id]? = some x ∧ b ∈ aH x hb
 | [], [], _, b, hb => by simp [iI] at hb
 | [], _ :: _, h, _, _ => by simp [dN] at h
 | _ :: _, [], h, _, _ => by simp [dN] at h
 | x :: as, r :: bs, h, b, hb => by
  have hx : lK st.h x r := (gH h).2 0 x r rfl rfl
  have ht : dN st.h as bs := by
   cases as with
   | nil => cases bs with
    | nil => trivial
    | cons => simp [dN] at h
   | cons a2 as => cases bs with
    | nil => simp [dN] at h
    | cons b2 bs => exact h.2
  simp only [iI, List.flatten_cons, List.mem_append] at hb
  rcases hb with hb | hb
  ·cases x with
   | s id => cases r with
    | w ty sz rows =>
     simp only [goS] at hb
     cases hg : g[id]? with
     | none => simp [hg] at hb
     | some gx =>
      simp only [hg] at hb
      simp only [lK] at hx
      split at hx
      ·rename_i ty' sz' rows' lin e
       obtain ⟨rfl, rfl, rfl, rfl⟩ := hx
       exact ⟨id, by simp [nL], gx, _, aB e (by simp), hg, by simpa [aH] using hb⟩
      ·exact hx.elim
    | m ty sz rows =>
     simp only [goS] at hb
     cases hg : g[id]? with
     | none => simp [hg] at hb
     | some gx =>
      simp only [hg] at hb
      simp only [lK] at hx
      split at hx
      ·rename_i ty' sz' rows' lin e
       obtain ⟨rfl, rfl, rfl⟩ := hx
       exact ⟨id, by simp [nL], gx, _, aB e (by simp), hg, by simp only [aH]; exact List.mem_append.2 (.inl hb)⟩
      ·exact hx.elim
    | _ => simp [goS] at hb
   | _ => simp [goS] at hb
  ·obtain ⟨id, h1, h2⟩ := pF hr ht b hb
   refine ⟨id, ?_, h2⟩
   cases x <;> cases r <;> simp [nL, h1]
theorem iB (hr : Rel C g V st a w) : ∀ {as bs : List At}, dN st.h as bs → (nL as bs).Nodup → (iI g as bs).flatten.Nodup
 | [], [], _, _ => by simp [iI]
 | [], _ :: _, h, _ => by simp [dN] at h
 | _ :: _, [], h, _ => by simp [dN] at h
 | x :: as, r :: bs, h, hn => by
  have hx : lK st.h x r := (gH h).2 0 x r rfl rfl
  have ht : dN st.h as bs := by
   cases as with
   | nil => cases bs with
    | nil => trivial
    | cons => simp [dN] at h
   | cons a2 as => cases bs with
    | nil => simp [dN] at h
    | cons b2 bs => exact h.2
  have plain : goS g x r = [] → (nL as bs).Nodup → (iI g (x :: as) (r :: bs)).flatten.Nodup := fun e hn' => by
   simp only [iI, List.flatten_cons, e, List.nil_append]
   exact iB hr ht hn'
  cases x with
  | s id => cases r with
   | w ty sz rows =>
    simp only [nL, List.nodup_cons] at hn
    simp only [lK] at hx
    split at hx
    ·rename_i ty' sz' rows' lin e
     obtain ⟨rfl, rfl, rfl, rfl⟩ := hx
     have hi := aB e (by simp)
     obtain ⟨gx, hg, _⟩ := hr.ghost hi
     simp only [iI, List.flatten_cons, goS, hg]
     have hown : aH gx (.row ty' sz' rows' true) = gx.blk.toList ++ gx.tr := by simp [aH]
     refine List.nodup_append.2 ⟨by rw [← hown]; exact hr.hp.nd id _ gx hi hg, iB hr ht hn.2, fun b hb c hc => ?_⟩
     rintro rfl
     obtain ⟨id', h1, x', hb', e1, e2, e3⟩ := pF hr ht b hc
     exact hr.hp.dj id id' _ hb' gx x' (fun e => hn.1 (e ▸ h1)) hi hg e1 e2 b (by rw [hown]; exact hb) e3
    ·exact hx.elim
   | m ty sz rows =>
    simp only [nL, List.nodup_cons] at hn
    simp only [lK] at hx
    split at hx
    ·rename_i ty' sz' rows' lin e
     obtain ⟨rfl, rfl, rfl⟩ := hx
     have hi := aB e (by simp)
     obtain ⟨gx, hg, _⟩ := hr.ghost hi
     simp only [iI, List.flatten_cons, goS, hg]
     refine List.nodup_append.2 ⟨by cases gx.blk <;> simp, iB hr ht hn.2, fun b hb c hc => ?_⟩
     rintro rfl
     obtain ⟨id', h1, x', hb', e1, e2, e3⟩ := pF hr ht b hc
     exact hr.hp.dj id id' _ hb' gx x' (fun e => hn.1 (e ▸ h1)) hi hg e1 e2 b (by simp only [aH]; exact List.mem_append.2 (.inl hb)) e3
    ·exact hx.elim
   | _ => exact plain rfl (by simpa [nL] using hn)
  | _ => cases r <;> exact plain rfl (by simpa [nL] using hn)
theorem a4G (hT : TyOK E.P E.T) (hr : Rel C g V st a w) {r : ResultVar} {b : Bool} {cs : List At} (h : a3l E st r = some (b, cs)) :
    ∃ v l, ((match r with | .tmp t => pure (a.tmps.getD t undef) | .cell x t => do loadVar t (← asAddr (a.tmps.getD x undef))) : Sem Value).run E.P w = .ok v w ∧ (if b then v = .agg (List.toArray l) else l = [v]) ∧ cL g V cs l := by
 cases r with
 | tmp t =>
  simp only [a3l] at h
  have hx := aY hr.sl (.tmp t)
  simp only [ev, Act.eval] at hx
  split at h
  ·rename_i x e
   cases h
   rw [e] at hx
   exact ⟨_, [a.tmps.getD t undef], rfl, by simp, cL.cons hx (cL.nil g V)⟩
  ·rename_i x e
   cases h
   rw [e] at hx
   obtain ⟨l, hl, hc⟩ := hx
   exact ⟨_, l, rfl, by simpa using hl, hc⟩
  ·cases h
 | cell t ty =>
  simp only [a3l] at h
  have hx := aY hr.sl (.tmp t)
  simp only [ev, Act.eval] at hx
  split at h
  ·rename_i id off e
   rw [e] at hx
   obtain ⟨gh, bk, hg, hb, hp⟩ := hx
   split at h
   ·rename_i ty' cs' hbox
    split at h
    ·cases h
    ·rename_i htag
     simp only [Option.map_eq_some_iff] at h
     obtain ⟨r, hsub, h⟩ := h
     cases h
     obtain ⟨i, z, u, hgood⟩ := hT.good htag
     obtain ⟨b', l, e1, e2, e3⟩ := hr.hp.hb id _ gh (aB hbox (by simp)) hg
     rw [hb] at e1
     cases e1
     obtain ⟨c1, c2, c3⟩ := a1Z hsub e3
     have hrun := gK hgood w ⟨bk, off, none⟩ ((l.drop off).take (E.T ty).size) c3 (fun j y hj => by
      rw [List.getElem?_take] at hj
      split at hj
      ·rw [List.getElem?_drop] at hj
       rw [Addr.add_lit, cell_of_row w bk _ _ ty' (0, 0) e2]
       simpa using hj
      ·cases hj)
     refine ⟨if (E.T ty).agg then .agg ((l.drop off).take (E.T ty).size).toArray else ((l.drop off).take (E.T ty).size).headD undef, (l.drop off).take (E.T ty).size, ?_, ?_, c1⟩
     ·simp only [hp, asAddr, Sem.run_bind, Sem.run_pure, Result.andThen_ok]
      simpa [Instr.loadAt, Instr.sureAddr] using hrun
     ·cases ha : (E.T ty).agg with
      | true => simp
      | false =>
       have h1 := hgood.agg_size ha
       rw [h1] at c3 ⊢
       match (l.drop off).take 1, c3 with
       | [y], _ => rfl
   ·cases h
  ·cases h
theorem lW (hT : TyOK E.P E.T) (hr : Rel C g V st a w) : ∀ {rs : List ResultVar} {l : List (Bool × List At)}, retVs E st rs = some l →
    ∃ (vs : List Value) (ls : List (List Value)), (rs.mapM fun r => ((match r with | .tmp t => pure (a.tmps.getD t undef) | .cell x t => do loadVar t (← asAddr (a.tmps.getD x undef))) : Sem Value)).run E.P w = .ok vs w ∧
     vs.length = l.length ∧ ls.length = l.length ∧ (∀ (k : Nat) (b : Bool) (c : List At) (m : List Value) (v : Value), l[k]? = some (b, c) → ls[k]? = some m → vs[k]? = some v → (if b then v = .agg m.toArray else m = [v]) ∧ cL g V c m) ∧ cL g V (l.flatMap (·.2)) ls.flatten
 | [], l, h => by
  simp only [retVs, Option.some.injEq] at h
  subst h
  exact ⟨[], [], rfl, rfl, rfl, fun k b c m v h => by simp at h, cL.nil g V⟩
 | r :: rs, l, h => by
  simp only [retVs, Option.bind_eq_some_iff, Option.map_eq_some_iff] at h
  obtain ⟨⟨b, cs⟩, h1, l', h2, rfl⟩ := h
  obtain ⟨v, m, e1, e2, e3⟩ := a4G hT hr h1
  obtain ⟨vs, ls, f1, f2, f3, f4, f5⟩ := lW hT hr h2
  refine ⟨v :: vs, m :: ls, ?_, by simp [f2], by simp [f3], fun k b' c m' v' q1 q2 q3 => ?_, ?_⟩
  ·rw [List.mapM_cons]
   simp only [Sem.run_bind, e1, Result.andThen_ok, f1, Sem.run_pure]
  ·cases k with
   | zero => simp at q1 q2 q3; obtain ⟨rfl, rfl⟩ := q1; subst q2; subst q3; exact ⟨e2, e3⟩
   | succ k => exact f4 k b' c m' v' (by simpa using q1) (by simpa using q2) (by simpa using q3)
  ·simpa using e3.append f5
end
end Go.Sx
end
section
set_option linter.all false
namespace Go.Sx
open Go Go.RowKit
section
variable {E : Env} {C : Ctx} {g : List Gh} {V : View} {st : St} {a : Act} {w : World}
def rvM (a : Act) : ResultVar → Sem Value
 | .tmp t => pure (a.tmps.getD t undef)
 | .cell x t => do loadVar t (← asAddr (a.tmps.getD x undef))
theorem kG {fn : Func} {rs : List ResultVar} (hf : fn.results = rs.toArray) {P : Program} {vs : List Value} (h : (rs.mapM (rvM a)).run P w = .ok vs w) :
    (results fn a.tmps).run P w = .ok (match vs with | [v] => v | _ => .tuple vs.toArray) w := by
 unfold results
 rw [hf]
 have : (rs.toArray.mapM (rvM a)).run P w = .ok vs.toArray w := by
  rw [List.mapM_toArray]
  simp [h]
 show (Sem.run P (do
  let vs ← rs.toArray.mapM (rvM a)
  pure (if h : vs.size = 1 then vs[0] else .tuple vs)) w) = _
 simp only [Sem.run_bind, this, Result.andThen_ok, Sem.run_pure]
 match vs with
 | [] => rfl
 | [v] => rfl
 | v :: v' :: r => simp
theorem jO (res : SV) : res.all = (lL res).flatMap (·.2) := by
 cases res <;> simp [SV.all, lL]
theorem pG (hT : TyOK E.P E.T) (hX : C.X = []) (hr : Rel C g V st a w) {fn : Func} {rs : List ResultVar} (hf : fn.results = rs.toArray) {res : SV} (h : RetOK E st rs res) :
    ∃ y, (results fn a.tmps).run E.P w = .ok y w ∧ Done C.V0 C.w0 res y w := by
 obtain ⟨⟨l, h1, h2, h3, h4⟩, hone⟩ := h
 obtain ⟨vs, ls, f1, f2, f3, f4, f5⟩ := lW hT hr h1
 have f1' : (rs.mapM (rvM a)).run E.P w = .ok vs w := by
  rw [← f1]
  congr 2
 refine ⟨_, kG hf f1', ⟨V, (iI g (l.flatMap (·.2)) ((lL res).flatMap (·.2))).flatten, hr.vw.le, hr.mod, fun b cs q1 q2 => ?_, ⟨ls.flatten, ?_, ?_⟩, iB hr h3 h4, fun b hb => ?_⟩, ?_⟩
 ·have := hr.vw.fresh b cs q1 q2
  rw [hX] at this
  exact ⟨by simpa using this, hr.vw.unf b cs q1 q2⟩
 ·
  have hlen : l.length = (lL res).length := by simpa using congrArg List.length h2
  have hget : ∀ (k : Nat) (b : Bool) (c : List At), (lL res)[k]? = some (b, c) → ∃ c', l[k]? = some (b, c') ∧ c'.length = c.length := fun k b c hk => by
   have := congrArg (fun z => z[k]?) h2
   simp only [List.getElem?_map, hk, Option.map_some] at this
   cases hl : l[k]? with
   | none => rw [hl] at this; cases this
   | some x =>
    rw [hl] at this
    simp only [Option.map_some, Option.some.injEq, Prod.mk.injEq] at this
    exact ⟨x.2, by rw [← this.1], this.2⟩
  have one : ∀ (b : Bool) (c : List At), lL res = [(b, c)] → ∃ v m, vs = [v] ∧ ls = [m] ∧ (if b then v = .agg m.toArray else m = [v]) := fun b c e => by
   obtain ⟨c', hc', _⟩ := hget 0 b c (by rw [e]; rfl)
   rw [e] at hlen
   match vs, f2.trans hlen, ls, f3.trans hlen with
   | [v], _, [m], _ => exact ⟨v, m, rfl, rfl, (f4 0 b c' m v hc' rfl rfl).1⟩
  cases res with
  | o x =>
   obtain ⟨v, m, rfl, rfl, e⟩ := one false [x] rfl
   simpa [shapeOf] using e
  | g cs =>
   obtain ⟨v, m, rfl, rfl, e⟩ := one true cs rfl
   simpa [shapeOf] using e
  | t cs =>
   refine ⟨ls, f3.trans hlen, rfl, fun k b c m hk hm => ?_, vs, ?_, f2.trans hlen, fun k b c m v hk hm hv => ?_⟩
   ·obtain ⟨c', hc', e⟩ := hget k b c hk
    have hv : k < vs.length := by rw [f2, ← f3]; exact (List.getElem?_eq_some_iff.1 hm).1
    have := (f4 k b c' m _ hc' hm (List.getElem?_eq_getElem hv)).2.1
    omega
   ·have hne : vs.length ≠ 1 := by rw [f2, hlen]; exact hone
    match vs, hne with
    | [], _ => rfl
    | v :: v' :: r, _ => rfl
   ·obtain ⟨c', hc', e⟩ := hget k b c hk
    exact (f4 k b c' m v hc' hm hv).1
 ·have hl := gH h3
  refine ⟨iI g (l.flatMap (·.2)) ((lL res).flatMap (·.2)), ?_, ?_, rfl, fun k x y s e1 e2 e3 => ?_⟩
  ·rw [f5.1, hl.1, jO]
  ·rw [oZ g hl.1, hl.1, jO]
  ·rw [jO] at e1
   have hk : k < (l.flatMap (·.2)).length := by rw [hl.1]; exact (List.getElem?_eq_some_iff.1 e1).1
   have e0 : (l.flatMap (·.2))[k]? = some ((l.flatMap (·.2))[k]) := List.getElem?_eq_getElem hk
   rw [pE g e0 e1] at e3
   cases e3
   exact xN hr (hl.2 k _ x e0 e1) (f5.2 k _ y e0 e2)
 ·obtain ⟨id, _, x, hb', e1, e2, e3⟩ := pF hr h3 b hb
  have := hr.hp.lo id hb' x e1 e2 b e3
  rw [hX] at this
  exact ⟨by simpa using this.1, this.2⟩
 ·exact ⟨hr.fr.os, hr.fr.tape, hr.fr.output, hr.fr.size, fun k hk => hr.fr.block k hk (by rw [hX]; simp)⟩
def a5U (E : Env) (rs : List ResultVar) (res : SV) : Ex → St → Prop
 | .ret, st => ∃ st', Sees E.C st st' ∧ RetOK E st' rs res
 | .normal, st => ∃ st', Sees E.C st st' ∧ RetOK E st' rs res
 | .exit _, _ => False
theorem aA {E : Env} {rs : List ResultVar} {res : SV} {st : St} (h : RetOK E st rs res) : a5U E rs res .ret st := ⟨st, Sees.refl _ _, h⟩
def st0 (args : List SV) (n : Nat) : St := ⟨args ++ List.replicate (n - args.length) (.t []), []⟩
theorem FnC.of_wp {P : Program} {T : Nat → Ty} {eqk : Nat → List Nat} (hT : TyOK P T) {f : Nat} {fn : Func} {c : Code} {rs : List ResultVar} {args : List SV} {res : SV}
    (hf : P.funcs[f]? = some fn) (hb : fn.body = some c) (hcall : ∀ as w, (callFunc f as).run P w = .ok (.enter f as) w) (hres : fn.results = rs.toArray)
    (h : ∀ C : Ctx, C.X = [] → WP P C c (aR P C [] (a5U ⟨P, T, C, eqk⟩ rs res)) (st0 args fn.ntmps)) : FnC P f args res := by
 refine ⟨hcall, fun V w vs htab hm ha => ?_⟩
 let C : Ctx := ⟨w, [], V, htab⟩
 refine calls_of_wp hf hb ?_
 have hr : Rel C [] V (st0 args fn.ntmps) { tmps := vs.toArray ++ Array.replicate (fn.ntmps - vs.toArray.size) undef, defers := [] } w := by
  refine ⟨⟨by simp [st0, ha.1], fun i s y h1 h2 => ?_, rfl⟩, ⟨rfl, fun i b x h => by simp [st0] at h, fun i b x h => by simp [st0] at h, fun i j b b' x x' _ h => by simp [st0] at h, fun i b x h => by simp [st0] at h, fun i b x h => by simp [st0] at h⟩, hm,
   ⟨rfl, rfl, rfl, Nat.le_refl _, fun _ _ _ => rfl⟩, ⟨View.le.refl V, (fun b cs h1 h2 => by have h2' : V b = none := h2; rw [h1] at h2'; cases h2'), (fun b cs h1 h2 => by have h2' : V b = none := h2; rw [h1] at h2'; cases h2')⟩⟩
  simp only [st0] at h1
  rw [List.getElem?_append] at h1
  rw [Array.getElem?_append] at h2
  simp only [List.size_toArray, ha.1] at h2
  split at h1
  ·rw [if_pos ‹_›] at h2
   exact ha.2 i s y h1 (by simpa using h2)
  ·rw [if_neg ‹_›] at h2
   rw [List.getElem?_replicate] at h1
   rw [Array.getElem?_replicate] at h2
   split at h1
   ·rw [if_pos ‹_›] at h2
    cases h1; cases h2; exact eU _ _
   ·cases h1
 refine wp_mono (h C rfl [] V _ w hr) fun e a' w' q => ?_
 cases e with
 | normal =>
  obtain ⟨g, V', st', hr', s, hs, hret⟩ := q
  obtain ⟨g2, V2, hr2⟩ := hs g V' a' w' hr'
  obtain ⟨y, hy, hd⟩ := pG (E := ⟨P, T, C, eqk⟩) hT rfl hr2 hres hret
  exact ⟨hr'.sl.defers, y, hy, y, rfl, hd⟩
 | ret =>
  obtain ⟨g, V', st', hr', s, hs, hret⟩ := q
  obtain ⟨g2, V2, hr2⟩ := hs g V' a' w' hr'
  obtain ⟨y, hy, hd⟩ := pG (E := ⟨P, T, C, eqk⟩) hT rfl hr2 hres hret
  exact ⟨hr'.sl.defers, y, hy, y, rfl, hd⟩
 | exit id => obtain ⟨g, V', st', hr', q⟩ := q; exact q.elim
 | goto l => exact q.elim
 | panic ch => exact q.elim
 | outgrown => exact q.elim
end
def tY (h : List HB) : At → At
 | .s id => match bK h id with
  | .frz rows _ => .d (.sl rows)
  | _ => .u
 | .z => .d (.sl [])
 | a => a
def dH (h : List HB) : SV → SV
 | .o a => .o (tY h a)
 | .g cs => .g (cs.map (tY h))
 | .t l => .t l
def zI : At → Bool
 | .u => false
 | .p .. | .r .. | .s _ | .w .. | .m .. | .e .. | .n .. => false
 | _ => true
def bJ : SV → Bool
 | .o a => zI a
 | .g cs => cs.all zI
 | .t l => l.isEmpty
theorem tZ {C : Ctx} {g : List Gh} {V : View} {st : St} {a : Act} {w : World} (hr : Rel C g V st a w) {x : At} {y : Value} (h : cAt g V x y) : cAt g V (tY st.h x) y := by
 cases x with
 | s id =>
  simp only [tY]
  split
  ·rename_i rows lin e
   obtain ⟨gh, hg, hv, _⟩ := h
   obtain ⟨_, S, hl, _⟩ := hr.hp.hb id _ gh (aB e (by simp)) hg
   exact ⟨S, by rw [hv]; exact hl⟩
  ·trivial
 | z => have h : y = _ := h; subst h; exact ⟨[], .nil⟩
 | _ => exact h
theorem iJ {C : Ctx} {g : List Gh} {V : View} {st : St} {a : Act} {w : World} (hr : Rel C g V st a w) {s : SV} {y : Value} (h : cSV g V s y) : cSV g V (dH st.h s) y := by
 cases s with
 | o x => exact tZ hr h
 | g cs =>
  obtain ⟨l, hl, hc⟩ := h
  refine ⟨l, hl, by simp [hc.1], fun k x z h1 h2 => ?_⟩
  rw [List.getElem?_map] at h1
  cases hk : cs[k]? with
  | none => rw [hk] at h1; cases h1
  | some c => rw [hk] at h1; cases h1; exact tZ hr (hc.2 k c z hk h2)
 | t l => exact h
theorem zJ {g : List Gh} {V : View} {x : At} {y : Value} (h : cAt g V x y) (hf : zI x = true) : cAt [] V x y := by
 cases x <;> first | exact h | simp [zI] at hf
theorem gP {g : List Gh} {V : View} {s : SV} {y : Value} (h : cSV g V s y) (hf : bJ s = true) : cSV [] V s y := by
 cases s with
 | o x => exact zJ h hf
 | g cs => obtain ⟨l, hl, hc⟩ := h; exact ⟨l, hl, hc.1, fun k x z h1 h2 => zJ (hc.2 k x z h1 h2) (List.all_eq_true.1 hf x (List.mem_of_getElem? h1))⟩
 | t l =>
  obtain ⟨ys, h1, h2, h3⟩ := h
  have : l = [] := by simpa [bJ] using hf
  subst this
  exact ⟨ys, h1, h2, fun k b cs v h => by simp at h⟩
def adA : Nat → List At → List At
 | _, [] => []
 | n, .w _ _ _ :: cs => .s n :: adA (n + 1) cs
 | n, .m _ _ _ :: cs => .s n :: adA (n + 1) cs
 | n, a :: cs => a :: adA n cs
def adH : List At → List HB
 | [] => []
 | .w ty sz rows :: cs => .row ty sz rows true :: adH cs
 | .m ty sz rows :: cs => .row ty sz rows false :: adH cs
 | _ :: cs => adH cs
def adT : Nat → List (Bool × List At) → List (Bool × List At)
 | _, [] => []
 | n, (b, cs) :: l => (b, adA n cs) :: adT (n + (adH cs).length) l
def adS (n : Nat) : SV → SV
 | .o a => match adA n [a] with
  | [x] => .o x
  | _ => .o .u
 | .g cs => .g (adA n cs)
 | .t l => .t (adT n l)
theorem iZ : ∀ (n : Nat) (cs : List At), (adA n cs).length = cs.length
 | _, [] => rfl
 | n, a :: cs => by cases a <;> simp [adA, iZ]
theorem a1N : ∀ (n : Nat) (cs ds : List At), adA n (cs ++ ds) = adA n cs ++ adA (n + (adH cs).length) ds
 | n, [], ds => by simp [adA, adH]
 | n, a :: cs, ds => by
  cases a <;> simp [adA, adH, a1N]
  all_goals (congr 1; omega)
theorem pI {C : Ctx} {V : View} {a : Act} {w : World} : ∀ {cs : List At} {st : St} {g : List Gh} {l : List Value} {Ss : List (List Nat)}, Rel C g V st a w → l.length = cs.length → Ss.length = cs.length →
    (∀ (k : Nat) (x : At) (y : Value) (s : List Nat), cs[k]? = some x → l[k]? = some y → Ss[k]? = some s → rAt V w x y s) → Ss.flatten.Nodup →
    (∀ b ∈ Ss.flatten, (C.w0.heap.size ≤ b ∨ b ∈ C.X) ∧ b < w.heap.size ∧ ∀ (i : Nat) (hb : HB) (x : Gh), st.h[i]? = some hb → g[i]? = some x → b ∉ aH x hb) →
    ∃ g', Rel C g' V ⟨st.t, st.h ++ adH cs⟩ a w ∧ GLe g g' ∧ cL g' V (adA st.h.length cs) l := by
 intro cs
 induction cs with
 | nil =>
  intro st g l Ss hr hl hS hk hn hb
  have : l = [] := List.eq_nil_of_length_eq_zero hl
  subst this
  exact ⟨g, by simpa [adH] using hr, GLe.refl g, cL.nil g V⟩
 | cons c cs ih =>
  intro st g l Ss hr hl hS hk hn hb
  obtain ⟨y, l', rfl⟩ : ∃ y l', l = y :: l' := by cases l with
   | nil => simp at hl
   | cons y l' => exact ⟨y, l', rfl⟩
  obtain ⟨S, Ss', rfl⟩ : ∃ S Ss', Ss = S :: Ss' := by cases Ss with
   | nil => simp at hS
   | cons S Ss' => exact ⟨S, Ss', rfl⟩
  generalize l' = l at *
  generalize Ss' = Ss at *
  ·skip
   have hy := hk 0 c y S rfl rfl rfl
   have hl2 : l.length = cs.length := by simpa using hl
   have hS2 : Ss.length = cs.length := by simpa using hS
   simp only [List.flatten_cons] at hn hb
   have hn2 := (List.nodup_append.1 hn).2.1
   have hk' : ∀ (k : Nat) (x : At) (y : Value) (s : List Nat), cs[k]? = some x → l[k]? = some y → Ss[k]? = some s → rAt V w x y s := fun k x y s e1 e2 e3 => hk (k + 1) x y s (by simpa using e1) (by simpa using e2) (by simpa using e3)
   have push : ∀ (c' : At) (hb0 : HB) (x : Gh), adH (c' :: cs) = hb0 :: adH cs → adA st.h.length (c' :: cs) = .s st.h.length :: adA (st.h.length + 1) cs → x.val = y → aH x hb0 = S → (∀ n ∈ aK x hb0, V n = none) → HBok (g ++ [x]) V w x hb0 → y.oneCell' = true →
       ∃ g', Rel C g' V ⟨st.t, st.h ++ adH (c' :: cs)⟩ a w ∧ GLe g g' ∧ cL g' V (adA st.h.length (c' :: cs)) (y :: l) := by
    intro c' hb0 x eH eA hxv hown hroot hok hone
    have hr1 : Rel C (g ++ [x]) V (st.push hb0) a w := ⟨hr.sl.mono (GLe.push _ _) (View.le.refl V), hr.hp.push hok (by rw [hown]; exact (List.nodup_append.1 hn).1)
     (fun n hn' => by rw [hown] at hn'; exact ⟨(hb n (List.mem_append.2 (.inl hn'))).1, (hb n (List.mem_append.2 (.inl hn'))).2.1⟩)
     (fun i b' x' e1 e2 n hn' hm => by rw [hown] at hm; exact (hb n (List.mem_append.2 (.inl hm))).2.2 i b' x' e1 e2 hn') hroot, hr.mod, hr.fr, hr.vw⟩
    obtain ⟨g', h1, h2, h3⟩ := ih hr1 hl2 hS2 hk' hn2 (fun b hb' => by
     obtain ⟨p1, p2, p3⟩ := hb b (List.mem_append.2 (.inr hb'))
     refine ⟨p1, p2, fun i hb2 x2 e1 e2 => ?_⟩
     rcases Nat.lt_trichotomy i st.h.length with hi | hi | hi
     ·simp only [St.push] at e1
      rw [List.getElem?_append_left hi] at e1
      rw [List.getElem?_append_left (by rw [hr.hp.glen]; exact hi)] at e2
      exact p3 i hb2 x2 e1 e2
     ·simp only [St.push] at e1
      subst hi
      rw [List.getElem?_append_right (Nat.le_refl _)] at e1
      rw [List.getElem?_append_right (by rw [hr.hp.glen]; exact Nat.le_refl _)] at e2
      simp [hr.hp.glen] at e1 e2
      subst e1; subst e2
      rw [hown]
      exact fun hm => (List.nodup_append.1 hn).2.2 b hm b hb' rfl
     ·simp only [St.push] at e1
      rw [List.getElem?_eq_none (by simp; omega)] at e1
      cases e1)
    have hlen : g.length = st.h.length := hr.hp.glen
    refine ⟨g', by rw [eH]; simpa [St.push] using h1, (GLe.push g [x]).trans h2, eA ▸ cL.cons ?_ (by simpa [St.push] using h3)⟩
    obtain ⟨x', e1, e2, e3, _⟩ := h2 st.h.length x (by rw [List.getElem?_append_right (by omega)]; simp [hlen])
    exact ⟨x', e1, by rw [e3, hxv], hone⟩
   cases c with
   | d x =>
    obtain ⟨rfl, T, hT⟩ := hy
    obtain ⟨g', h1, h2, h3⟩ := ih hr hl2 hS2 hk' hn2 (fun b hb' => hb b (List.mem_append.2 (.inr hb')))
    exact ⟨g', h1, h2, cL.cons ⟨T, hT⟩ h3⟩
   | w ty sz rows =>
    obtain ⟨h0, ys, Ts, q1, q2⟩ := hy
    rcases q2 with ⟨⟨ao, e1⟩, e2, e3⟩ | ⟨b, cap, c, e1, e2, e3, e4, e5, e6, e7, e8⟩
    ·subst e2
     have hTs : Ts = [] := by have := q1.2.1; simpa using this
     subst hTs
     refine push _ _ ⟨none, y, [], []⟩ rfl rfl rfl (by simp [aH, e3]) (fun n hn' => by simp [aK] at hn') ⟨h0, ys, [], q1, fun _ => rfl, .inl ⟨rfl, ⟨ao, e1⟩, rfl⟩⟩ (by rw [e1]; rfl)
    ·refine push _ _ ⟨some b, y, Ts.flatten, []⟩ rfl rfl rfl (by simp [aH, e8]) (fun n hn' => by simp [aK] at hn'; subst hn'; exact e7) ⟨h0, ys, Ts, q1, fun _ => rfl, .inr ⟨b, cap, c, rfl, e1, e2, e3, e4, e5, e6⟩⟩ (by rw [e1]; rfl)
   | m ty sz rows =>
    obtain ⟨h0, ys, Ts, q1, q2⟩ := hy
    rcases q2 with ⟨⟨ao, e1⟩, e2, e3⟩ | ⟨b, cap, c, e1, e2, e3, e4, e5, e6, e7, e8⟩
    ·subst e2
     have hTs : Ts = [] := by have := q1.2.1; simpa using this
     subst hTs
     refine push _ _ ⟨none, y, [], []⟩ rfl rfl rfl (by simp [aH, e3]) (fun n hn' => by simp [aK] at hn') ⟨h0, ys, [], q1, fun _ => rfl, .inl ⟨rfl, ⟨ao, e1⟩, rfl⟩⟩ (by rw [e1]; rfl)
    ·refine push _ _ ⟨some b, y, [], []⟩ rfl rfl rfl (by simp [aH, e8]) (fun n hn' => by simp [aK] at hn'; subst hn'; exact e7) ⟨h0, ys, Ts, q1, fun h => (by cases h), .inr ⟨b, cap, c, rfl, e1, e2, e3, e4, e5, e6⟩⟩ (by rw [e1]; rfl)
   | _ => exact hy.elim
theorem mW : ∀ (n : Nat) (l : List (Bool × List At)) (ls : List (List Value)) {g : List Gh} {V : View}, ls.length = l.length →
    (∀ (k : Nat) (b : Bool) (c : List At) (m : List Value), l[k]? = some (b, c) → ls[k]? = some m → m.length = c.length) → cL g V (adA n (l.flatMap (·.2))) ls.flatten →
    ∀ (k : Nat) (b : Bool) (c : List At) (m : List Value), (adT n l)[k]? = some (b, c) → ls[k]? = some m → (∃ c0, l[k]? = some (b, c0)) ∧ cL g V c m
 | n, [], ls, g, V, hl, hlen, hc, k, b, c, m, h1, h2 => by simp [adT] at h1
 | n, (b0, c0) :: l, [], g, V, hl, hlen, hc, k, b, c, m, h1, h2 => by simp at hl
 | n, (b0, c0) :: l, m0 :: ls, g, V, hl, hlen, hc, k, b, c, m, h1, h2 => by
  have hm0 := hlen 0 b0 c0 m0 rfl rfl
  simp only [List.flatMap_cons, List.flatten_cons, a1N] at hc
  have hA : (adA n c0).length = c0.length := iZ n c0
  cases k with
  | zero =>
   simp only [adT, List.getElem?_cons_zero, Option.some.injEq, Prod.mk.injEq] at h1 h2
   obtain ⟨rfl, rfl⟩ := h1
   subst h2
   refine ⟨⟨c0, rfl⟩, ?_⟩
   have := hc.take c0.length
   rw [List.take_append_of_le_length (by omega), List.take_of_length_le (by omega), List.take_append_of_le_length (by omega), List.take_of_length_le (by omega)] at this
   exact this
  | succ k =>
   simp only [adT, List.getElem?_cons_succ] at h1 h2 ⊢
   have hd := hc.drop c0.length
   rw [List.drop_append_of_le_length (by omega), List.drop_of_length_le (by omega), List.drop_append_of_le_length (by omega), List.drop_of_length_le (by omega)] at hd
   exact mW _ l ls (by simpa using hl) (fun k b c m e1 e2 => hlen (k + 1) b c m (by simpa using e1) (by simpa using e2)) (by simpa using hd) k b c m h1 h2
theorem fT : ∀ (n : Nat) (l : List (Bool × List At)), (adT n l).length = l.length
 | _, [] => rfl
 | n, (b, c) :: l => by simp [adT, fT]
theorem CallS.of_fn {E : Env} {f : Nat} {args args' : List SV} {res : SV} {st : St} {K : St → SV → Prop} (h : FnC E.P f args' res) (he : args.map (dH st.h) = args') (hfree : args'.all bJ = true)
    (k : K ⟨st.t, st.h ++ adH res.all⟩ (adS st.h.length res)) : CallS E f args st K := by
 refine ⟨h.enters, fun g V a w vs hr hlen hargs => ?_⟩
 subst he
 have hc : jA V (args.map (dH st.h)) vs := by
  refine ⟨by simp [hlen], fun i s y h1 h2 => ?_⟩
  have hs := List.all_eq_true.1 hfree s (List.mem_of_getElem? h1)
  rw [List.getElem?_map] at h1
  cases hk : args[i]? with
  | none => rw [hk] at h1; cases h1
  | some s0 =>
   rw [hk] at h1
   cases h1
   exact gP (iJ hr (hargs i s0 y hk h2)) hs
 refine (h.calls V w vs hr.tab hr.mod hc).mono ?_
 rintro e w' ⟨y, rfl, ⟨V', S, hv, hm, hnew, ⟨l, hshape, Ss, r1, r2, r3, r4⟩, hnd, hblk⟩, hbelow⟩
 have hr1 := hr.later hv hm hbelow hnew
 subst r3
 obtain ⟨g', h1, h2, h3⟩ := pI (cs := res.all) hr1 r1 r2 r4 hnd (fun b hb => ⟨.inl (Nat.le_trans hr.fr.size (hblk b hb).1), (hblk b hb).2, fun i hb' x e1 e2 hm' => by
  have := (hr.hp.lo i hb' x e1 e2 b hm').2
  have := (hblk b hb).1
  omega⟩)
 refine ⟨y, g', V', _, _, rfl, h1, ?_, k⟩
 cases res with
 | o x =>
  have hl : l = [y] := hshape
  subst hl
  simp only [SV.all] at h3
  simp only [adS]
  have hlen1 : (adA st.h.length [x]).length = 1 := iZ _ _
  match he' : adA st.h.length [x], hlen1 with
  | [z], _ =>
   rw [he'] at h3
   exact h3.2 0 z y rfl rfl
 | g cs => exact ⟨l, hshape, h3⟩
 | t cs =>
  obtain ⟨ls, e1, e2, e3, ys, e4, e5, e6⟩ := hshape
  subst e2
  refine ⟨ys, e4, by rw [e5, fT], fun i b c v hi hv' => ?_⟩
  have hlt : i < ls.length := by rw [e1, ← fT st.h.length cs]; exact (List.getElem?_eq_some_iff.1 hi).1
  have hm' : ls[i]? = some ls[i] := List.getElem?_eq_getElem hlt
  obtain ⟨⟨c0, hc0⟩, hcc⟩ := mW st.h.length cs ls e1 e3 h3 i b c _ hi hm'
  have := e6 i b c0 _ v hc0 hm' hv'
  cases b with
  | true => simp only [if_true] at this ⊢; exact ⟨_, this, hcc⟩
  | false => simp only [Bool.false_eq_true, if_false] at this ⊢; rw [← this]; exact hcc
theorem CallS.sees {E : Env} {f : Nat} {args : List SV} {st st' : St} {K : St → SV → Prop} (h : Sees E.C st st') (hext : ∀ g V a w, Rel E.C g V st a w → ∃ g' V', Rel E.C g' V' st' a w ∧ GLe g g' ∧ V.le V') (k : CallS E f args st' K) : CallS E f args st K := by
 refine ⟨k.1, fun g V a w vs hr hlen hargs => ?_⟩
 obtain ⟨g', V', hr', hg, hv⟩ := hext g V a w hr
 exact k.2 g' V' a w vs hr' hlen fun i s y h1 h2 => (hargs i s y h1 h2).mono hg hv
end Go.Sx
end
section
set_option linter.all false
namespace Go.Sx
open Go Go.RowKit
def dsO : List Oper → List Nat
 | [] => []
 | o :: os => match o.dst with
  | some d => d :: dsO os
  | none => dsO os
def xO : Code → List Nat
 | .region _ ops _ => dsO ops.toList
 | .seq a b => xO a ++ xO b
 | .cond _ a b => xO a ++ xO b
 | .block _ c => xO c
 | .loop c => xO c
 | _ => []
def fgt : List SV → List Nat → List SV
 | l, [] => l
 | l, n :: ns => fgt (a1d l n (.o .u)) ns
def mds : List SV → List (Nat × SV) → List SV
 | l, [] => l
 | l, x :: r => mds (a1d l x.1 x.2) r
def mhs : List HB → List (Nat × HB) → List HB
 | l, [] => l
 | l, x :: r => mhs (setH l x.1 x.2) r
def wH {α : Type} (body : Code) (st : St) (M : α → List (Nat × SV)) (H : α → List (Nat × HB)) (a : α) : St := ⟨mds (fgt st.t (xO body)) (M a), mhs st.h (H a)⟩
section
variable {P : Program} {C : Ctx} {ks : List Kn} {F : Ex → St → Prop} {st : St}
theorem dG {body : Code} {α : Type} (M : α → List (Nat × SV)) (H : α → List (Nat × HB)) (Q : α → Prop) (μ : α → Nat) (x : α) (hok : ∀ x, (wH body st M H x).okB = true) (h0 : st.le (wH body st M H x)) (hq : Q x)
    (round : ∀ x, Q x → WP P C body (aR P C [] (pV (wH body st M H) Q μ x (aR P C ks F))) (wH body st M H x)) : WP P C (.loop body) (aR P C ks F) st :=
 a4W (wH body st M H) Q μ x hok h0 hq round
theorem a7g {α : Type} {I : α → St} {Q : α → Prop} {μ : α → Nat} {x : α} (h : F .ret st) : pV I Q μ x F .ret st := h
theorem a5V {α : Type} {I : α → St} {Q : α → Prop} {μ : α → Nat} {x : α} {j : Nat} (h : F (.exit j) st) : pV I Q μ x F (.exit j) st := h
theorem aU {α : Type} {I : α → St} {Q : α → Prop} {μ : α → Nat} {x : α} (y : α) (h : st.le (I y)) (hq : Q y) (hm : μ y < μ x) : pV I Q μ x F .normal st := ⟨y, ⟨[], st, rfl, h⟩, hq, hm⟩
theorem a4H {α : Type} {I : α → St} {Q : α → Prop} {μ : α → Nat} {x : α} (l : List (Nat × Nat)) (y : α) {s : St} (hs : swL st l = some s) (h : s.le (I y)) (hq : Q y) (hm : μ y < μ x) : pV I Q μ x F .normal st := ⟨y, ⟨l, s, hs, h⟩, hq, hm⟩
end
theorem Rel.nilRow {C : Ctx} {g : List Gh} {V : View} {st : St} {a : Act} {w : World} (hr : Rel C g V st a w) (ty sz : Nat) : Rel C (g ++ [⟨none, .slice none 0 0, [], []⟩]) V (st.push (.row ty sz [] true)) a w := by
 refine ⟨hr.sl.mono (GLe.push _ _) (View.le.refl V), hr.hp.push (b := .row ty sz [] true) ⟨fun r h => by simp at h, [], [], LayL.nil V, fun _ => rfl, .inl ⟨rfl, ⟨none, rfl⟩, rfl⟩⟩ ?_ ?_ ?_ ?_, hr.mod, hr.fr, hr.vw⟩
 ·simp [aH]
 ·intro n hn; simp [aH] at hn
 ·intro i b' x' _ _ n _ hm; simp [aH] at hm
 ·intro n hn; simp [aK] at hn
section
variable {P : Program} {C : Ctx} {F : Ex → St → Prop} {st : St} {code : Code}
theorem a1O (id k ty sz : Nat) {bt : Nat} {cs : List At} (hb : bK st.h id = .box bt cs) (hz : cs[k]? = some .z) (h : WP P C code F ⟨st.t, setH st.h id (.box bt (cs.set k (.s st.h.length))) ++ [.row ty sz [] true]⟩) : WP P C code F st := by
 intro g V a w hr
 have hr1 := hr.nilRow ty sz
 have hi := aB hb (by simp)
 have hlt : id < st.h.length := (List.getElem?_eq_some_iff.1 hi).1
 have hgl : g.length = st.h.length := hr.hp.glen
 have hx : g[id]? = some (g[id]'(by omega)) := List.getElem?_eq_getElem _
 generalize g[id]'(by omega) = x at hx
 have hok := hr.hp.hb id _ x hi hx
 obtain ⟨b, l, h1, h2, h3⟩ := hok
 have hx' : (g ++ [⟨none, .slice none 0 0, [], []⟩])[id]? = some x := by rw [List.getElem?_append_left (by omega)]; exact hx
 have hi' : (st.push (.row ty sz [] true)).h[id]? = some (.box bt cs) := by simp only [St.push]; rw [List.getElem?_append_left hlt]; exact hi
 have hset := hr1.hp.set (w' := w) id (b' := .box bt (cs.set k (.s st.h.length))) hi' hx' (fun n hn => hn) (show (aH x (.box bt cs)).Nodup from hr1.hp.nd id _ x hi' hx') (fun n hn => hn) ⟨b, l, h1, h2, by simp [h3.1], fun j c y q1 q2 => by
  rw [List.getElem?_set] at q1
  by_cases e : k = j
  ·subst e
   rw [if_pos rfl] at q1
   split at q1
   ·cases q1
    have hy : y = .slice none 0 0 := h3.2 k .z y hz q2
    exact ⟨⟨none, .slice none 0 0, [], []⟩, by rw [List.getElem?_append_right (by omega)]; simp [hgl], hy, by subst hy; rfl⟩
   ·cases q1
  ·rw [if_neg e] at q1
   exact (h3.2 j c y q1 q2).mono (GLe.push _ _) (View.le.refl V)⟩ (fun _ _ => rfl) rfl
 have e : (st.push (.row ty sz [] true)).h.set id (.box bt (cs.set k (.s st.h.length))) = setH st.h id (.box bt (cs.set k (.s st.h.length))) ++ [.row ty sz [] true] := by
  simp only [St.push, bD]
  rw [List.set_append_left _ _ hlt]
 rw [e] at hset
 exact h _ V a w ⟨hr1.sl, hset, hr1.mod, hr1.fr, hr1.vw⟩
end
end Go.Sx
end
section
set_option linter.all false
namespace Go.Sx
open Go Go.RowKit
theorem xP {w : World} {sz : Nat} {rows : List (List D)} {y : Value} {S : List Nat} {hd : List Value} (h : OwnR w sz rows y S hd) : ∃ U : View, Mod U w ∧ (∀ b cs, U b = some cs → b ∈ S ∧ Unf w b) ∧ Lay U (.sl rows) y S := by
 obtain ⟨h0, U, ys, Ss, h1, h2, h3, h4, h5⟩ := h
 refine ⟨U, h1, h2, ?_⟩
 rcases h5 with ⟨rfl, rfl, rfl⟩ | ⟨a, cap, rfl, e1, e2, e3, rfl⟩
 ·exact .nil
 ·exact .sl rows a cap sz ys Ss h0 e1 e2 h3.1 h3.2.1 e3 h3.2.2
theorem a4I {w : World} {sz : Nat} {rows : List (List D)} {y : Value} {S : List Nat} {hd : List Value} (h : OwnR w sz rows y S hd) : y.oneCell' = true := by
 obtain ⟨U, _, _, h⟩ := xP h
 exact h.oneCell
def fU (V : View) (w : World) : View := fun b => match V b with
 | some cs => some cs
 | none => match w.heap[b]? with
  | some (.cells c _ _) => some c.toList
  | _ => none
theorem iK (V : View) (w : World) : V.le (fU V w) := fun b cs h => ⟨cs, by simp [fU, h], List.prefix_refl _⟩
theorem jP {V : View} {w : World} (h : Mod V w) : Mod (fU V w) w := fun b cs hb => by
 cases hc : V b with
 | some cs' => simp [fU, hc] at hb; subst hb; exact h b cs' hc
 | none =>
  simp only [fU, hc] at hb
  split at hb
  ·rename_i c ty fz e
   cases hb
   exact ⟨c, ty, fz, e, List.prefix_refl _⟩
  ·cases hb
theorem a3m {C : Ctx} {g : List Gh} {V : View} {h : List HB} {w : World} (hp : Hp C g V h w) {id : Nat} {tag : Option (Value × List Nat × List Value)} {sz : Nat} {rows : List (List D)} {x : Gh} (hi : h[id]? = some (.own tag sz rows)) (hg : g[id]? = some x) :
    ∃ S, Lay (fU V w) (.sl rows) x.val S := by
 obtain ⟨_, hO⟩ := hp.hb id _ x hi hg
 obtain ⟨U, h1, h2, h3⟩ := xP hO
 refine ⟨_, h3.mono fun b cs hb => ?_⟩
 have hV : V b = none := hp.rt id _ x hi hg b (h2 b cs hb).1
 obtain ⟨c, ty, fz, e1, e2⟩ := h1 b cs hb
 exact ⟨c.toList, by simp [fU, hV, e1], e2⟩
theorem a3n {C : Ctx} {g : List Gh} {V : View} {h : List HB} {w : World} (hp : Hp C g V h w) {id : Nat} {ty sz : Nat} {rows : List (List D)} {lin : Bool} {x : Gh} (hi : h[id]? = some (.row ty sz rows lin)) (hg : g[id]? = some x) :
    ∃ S, Lay (fU V w) (.sl rows) x.val S := by
 obtain ⟨h0, ys, Ss, h1, _, h3⟩ := hp.hb id _ x hi hg
 rcases h3 with ⟨_, ⟨ao, e⟩, rfl⟩ | ⟨b, cap, c, eb, e2, e3, e4, e5, e6, e7⟩
 ·rw [e]
  cases ao with
  | none => exact ⟨_, .nil⟩
  | some ad => exact ⟨_, .sl [] ad 0 0 [] [] (by simp) (by simp) (by simp [maxLen]) rfl rfl (fun k y h => by simp at h) (fun k d y S h => by simp at h)⟩
 ·have hV : V b = none := hp.rt id _ x hi hg b (by simp [aK, eb])
  have h1' := h1.mono (iK V w)
  rw [e2]
  refine ⟨_, .sl rows ⟨b, 0, none⟩ cap sz ys Ss h0 e3 e4 h1'.1 h1'.2.1 (fun k y hk => ?_) h1'.2.2⟩
  rw [Addr.add_lit, Nat.zero_add]
  simp only [View.cell, fU, hV, e5, Option.isSome_none, Bool.false_eq_true, if_false, Option.bind_some]
  exact dV e7 hk
def zK (h : List HB) : At → At
 | .s id => match bK h id with
  | .frz rows _ => .d (.sl rows)
  | .own _ _ rows => .d (.sl rows)
  | .row _ _ rows _ => .d (.sl rows)
  | _ => .u
 | .z => .d (.sl [])
 | a => a
def cO (h : List HB) : SV → SV
 | .o a => .o (zK h a)
 | .g cs => .g (cs.map (zK h))
 | .t l => .t l
theorem zL {C : Ctx} {g : List Gh} {V : View} {st : St} {a : Act} {w : World} (hr : Rel C g V st a w) {x : At} {y : Value} (h : cAt g V x y) : cAt g (fU V w) (zK st.h x) y := by
 have hm := cAt.mono h (GLe.refl g) (iK V w)
 cases x with
 | s id =>
  simp only [zK]
  obtain ⟨gh, hg, hv, _⟩ := h
  split
  ·rename_i rows lin e
   obtain ⟨_, S, hl, _⟩ := hr.hp.hb id _ gh (aB e (by simp)) hg
   exact ⟨S, by rw [hv]; exact hl.mono (iK V w)⟩
  ·rename_i tag sz rows e
   obtain ⟨S, hl⟩ := a3m hr.hp (aB e (by simp)) hg
   exact ⟨S, by rw [hv]; exact hl⟩
  ·rename_i ty sz rows lin e
   obtain ⟨S, hl⟩ := a3n hr.hp (aB e (by simp)) hg
   exact ⟨S, by rw [hv]; exact hl⟩
  ·trivial
 | z => have h : y = _ := h; subst h; exact ⟨[], .nil⟩
 | _ => exact hm
theorem qW {C : Ctx} {g : List Gh} {V : View} {st : St} {a : Act} {w : World} (hr : Rel C g V st a w) {s : SV} {y : Value} (h : cSV g V s y) : cSV g (fU V w) (cO st.h s) y := by
 cases s with
 | o x => exact zL hr h
 | g cs =>
  obtain ⟨l, hl, hc⟩ := h
  refine ⟨l, hl, by simp [hc.1], fun k x z h1 h2 => ?_⟩
  rw [List.getElem?_map] at h1
  cases hk : cs[k]? with
  | none => rw [hk] at h1; cases h1
  | some c => rw [hk] at h1; cases h1; exact zL hr (hc.2 k c z hk h2)
 | t l => exact cSV.mono (s := .t l) h (GLe.refl g) (iK V w)
def oAt (w : World) : At → Value → List Nat × List Value → Prop
 | .d (.v x), y, p => y = x ∧ scalar x = true ∧ p.1 = []
 | .w _ sz rows, y, p => OwnR w sz rows y p.1 p.2
 | _, _, _ => False
def oL (w : World) (cs : List At) (l : List Value) (Ps : List (List Nat × List Value)) : Prop :=
 l.length = cs.length ∧ Ps.length = cs.length ∧ ∀ (k : Nat) (a : At) (y : Value) (p : List Nat × List Value), cs[k]? = some a → l[k]? = some y → Ps[k]? = some p → oAt w a y p
abbrev trs (Ps : List (List Nat × List Value)) : List Nat := (Ps.map (·.1)).flatten
def adG (tg : Nat → Option (Value × List Nat × List Value)) : Nat → List At → List HB
 | _, [] => []
 | j, .w _ sz rows :: cs => .own (tg j) sz rows :: adG tg (j + 1) cs
 | j, .m _ sz rows :: cs => .own (tg j) sz rows :: adG tg (j + 1) cs
 | j, _ :: cs => adG tg j cs
def rW (tg : Nat → Option (Value × List Nat × List Value)) : Nat → List At → List Value → List (List Nat × List Value) → Prop
 | j, .w _ _ _ :: cs, y :: l, p :: Ps => (∀ q, tg j = some q → q = (y, p.1, p.2)) ∧ rW tg (j + 1) cs l Ps
 | j, _ :: cs, _ :: l, _ :: Ps => rW tg j cs l Ps
 | _, _, _, _ => True
theorem wI {C : Ctx} {V : View} {a : Act} {w : World} {tg : Nat → Option (Value × List Nat × List Value)} : ∀ {cs : List At} {j : Nat} {st : St} {g : List Gh} {l : List Value} {Ps : List (List Nat × List Value)}, Rel C g V st a w → oL w cs l Ps → (trs Ps).Nodup →
    (∀ b ∈ trs Ps, (C.w0.heap.size ≤ b ∨ b ∈ C.X) ∧ b < w.heap.size ∧ V b = none ∧ ∀ (i : Nat) (hb : HB) (x : Gh), st.h[i]? = some hb → g[i]? = some x → b ∉ aH x hb) → rW tg j cs l Ps →
    ∃ g', Rel C g' V ⟨st.t, st.h ++ adG tg j cs⟩ a w ∧ GLe g g' ∧ cL g' V (adA st.h.length cs) l := by
 intro cs
 induction cs with
 | nil =>
  intro j st g l Ps hr hl hn hb ht
  have : l = [] := List.eq_nil_of_length_eq_zero hl.1
  subst this
  exact ⟨g, by simpa [adG] using hr, GLe.refl g, cL.nil g V⟩
 | cons c cs ih =>
  intro j st g l Ps hr hl hn hb ht
  obtain ⟨hl1, hl2, hl3⟩ := hl
  obtain ⟨y, l', rfl⟩ : ∃ y l', l = y :: l' := by cases l with
   | nil => simp at hl1
   | cons y l' => exact ⟨y, l', rfl⟩
  obtain ⟨p, Ps', rfl⟩ : ∃ p Ps', Ps = p :: Ps' := by cases Ps with
   | nil => simp at hl2
   | cons p Ps' => exact ⟨p, Ps', rfl⟩
  have hy := hl3 0 c y p rfl rfl rfl
  have hl' : oL w cs l' Ps' := ⟨by simpa using hl1, by simpa using hl2, fun k a y p e1 e2 e3 => hl3 (k + 1) a y p (by simpa using e1) (by simpa using e2) (by simpa using e3)⟩
  simp only [trs, List.map_cons, List.flatten_cons] at hn hb
  have hn2 := (List.nodup_append.1 hn).2.1
  cases c with
  | d x => cases x with
   | v x =>
    obtain ⟨rfl, hsc, hp⟩ := hy
    obtain ⟨g', h1, h2, h3⟩ := ih (j := j) hr hl' hn2 (fun b hb' => hb b (List.mem_append.2 (.inr hb'))) (by simpa [rW] using ht)
    exact ⟨g', h1, h2, cL.cons ⟨[], .v _ hsc⟩ h3⟩
   | sl r => exact hy.elim
  | w ty sz rows =>
   have hO : OwnR w sz rows y p.1 p.2 := hy
   obtain ⟨ht1, ht2⟩ : (∀ q, tg j = some q → q = (y, p.1, p.2)) ∧ rW tg (j + 1) cs l' Ps' := ht
   let x : Gh := ⟨none, y, p.1, p.2⟩
   have hown : aH x (.own (tg j) sz rows) = p.1 := rfl
   have hok : HBok (g ++ [x]) V w x (.own (tg j) sz rows) := ⟨fun v S hd e => by have := ht1 _ e; cases this; exact ⟨rfl, rfl, rfl⟩, hO⟩
   have hr1 : Rel C (g ++ [x]) V (st.push (.own (tg j) sz rows)) a w := ⟨hr.sl.mono (GLe.push _ _) (View.le.refl V), hr.hp.push hok (by rw [hown]; exact (List.nodup_append.1 hn).1)
    (fun n hn' => by rw [hown] at hn'; exact ⟨(hb n (List.mem_append.2 (.inl hn'))).1, (hb n (List.mem_append.2 (.inl hn'))).2.1⟩)
    (fun i b' x' e1 e2 n hn' hm => by rw [hown] at hm; exact (hb n (List.mem_append.2 (.inl hm))).2.2.2 i b' x' e1 e2 hn')
    (fun n hn' => (hb n (List.mem_append.2 (.inl hn'))).2.2.1), hr.mod, hr.fr, hr.vw⟩
   obtain ⟨g', h1, h2, h3⟩ := ih (j := j + 1) hr1 hl' hn2 (fun b hb' => by
    obtain ⟨p1, p2, p3, p4⟩ := hb b (List.mem_append.2 (.inr hb'))
    refine ⟨p1, p2, p3, fun i hb2 x2 e1 e2 => ?_⟩
    rcases Nat.lt_trichotomy i st.h.length with hi | hi | hi
    ·simp only [St.push] at e1
     rw [List.getElem?_append_left hi] at e1
     rw [List.getElem?_append_left (by rw [hr.hp.glen]; exact hi)] at e2
     exact p4 i hb2 x2 e1 e2
    ·simp only [St.push] at e1
     subst hi
     rw [List.getElem?_append_right (Nat.le_refl _)] at e1
     rw [List.getElem?_append_right (by rw [hr.hp.glen]; exact Nat.le_refl _)] at e2
     simp [hr.hp.glen] at e1 e2
     subst e1; subst e2
     rw [hown]
     exact fun hm => (List.nodup_append.1 hn).2.2 b hm b hb' rfl
    ·simp only [St.push] at e1
     rw [List.getElem?_eq_none (by simp; omega)] at e1
     cases e1) ht2
   have hlen : g.length = st.h.length := hr.hp.glen
   refine ⟨g', by simpa [St.push, adG] using h1, (GLe.push g [x]).trans h2, cL.cons ?_ (by simpa [St.push] using h3)⟩
   obtain ⟨x', e1, _, e3, _⟩ := h2 st.h.length x (by rw [List.getElem?_append_right (by omega)]; simp [hlen])
   exact ⟨x', e1, e3.symm, a4I hO⟩
  | _ => exact hy.elim
def jQ : At → Bool
 | .w .. => true
 | .d (.v _) => true
 | _ => false
theorem a0P {V : View} {w : World} {ty sz : Nat} {rows : List (List D)} {y : Value} {S : List Nat} (h : RowR V w ty sz rows y S) (hu : ∀ b ∈ S, ∀ cs, V b = some cs → Unf w b) (hm : Mod V w) : ∃ p : List Nat × List Value, p.1.Sublist S ∧ OwnR w sz rows y p.1 p.2 := by
 obtain ⟨h0, ys, Ss, h1, h2⟩ := h
 rcases h2 with ⟨⟨ao, e1⟩, e2, e3⟩ | ⟨b, cap, c, e1, e2, e3, e4, e5, e6, e7, e8⟩
 ·subst e2; subst e3
  have hys : ys = [] := by have := h1.1; simpa using this
  subst hys
  cases ao with
  | some ad => exact ⟨([], []), List.Sublist.refl _, h0, fun _ => none, [], [], (fun b cs hb => by cases hb), (fun b cs hb => by cases hb), LayL.nil _, (fun k rs q => by simp at q), .inr ⟨ad, 0, e1, by simp, by simp, (fun k z hk => by simp at hk), by simp⟩⟩
  | none =>
  exact ⟨([], []), List.Sublist.refl _, h0, fun _ => none, [], [], (fun b cs hb => by cases hb), (fun b cs hb => by cases hb), LayL.nil _, (fun k rs q => by simp at q), .inl ⟨e1, rfl, rfl⟩⟩
 ·let T : List Nat := (if rows.isEmpty then [] else [b]) ++ Ss.flatten
  have hT : T.Sublist S := by
   rw [e8]
   simp only [T]
   split
   ·exact List.sublist_cons_self _ _
   ·exact List.Sublist.refl _
  let U : View := fun n => if n ∈ T then (if n = b then some ys else V n) else none
  refine ⟨(T, ys), hT, h0, U, ys, Ss, fun n cs hn => ?_, fun n cs hn => ?_, ⟨h1.1, h1.2.1, fun k d z S' q1 q2 q3 => ?_⟩, fun k rs _ => rfl, .inr ⟨⟨b, 0, none⟩, cap, e1, e2, e3, fun k z hk => ?_, rfl⟩⟩
  ·simp only [U] at hn
   split at hn
   ·split at hn
    ·rename_i hnb
     subst hnb; cases hn
     exact ⟨c, ty, (0, 0), e4, e6⟩
    ·exact hm n cs hn
   ·cases hn
  ·simp only [U] at hn
   split at hn
   ·rename_i hnT
    refine ⟨hnT, ?_⟩
    split at hn
    ·rename_i hnb; subst hnb; exact ⟨c, ty, e4⟩
    ·exact hu n (hT.subset hnT) cs hn
   ·cases hn
  ·refine (h1.2.2 k d z S' q1 q2 q3).restrict fun n hn cs hcs => ⟨cs, ?_, List.prefix_refl _⟩
   have hnT : n ∈ T := List.mem_append.2 (.inr (List.mem_flatten.2 ⟨S', List.mem_of_getElem? q3, hn⟩))
   have hnb : n ≠ b := fun e => by rw [e, e7] at hcs; cases hcs
   simp only [U, if_pos hnT, if_neg hnb]
   exact hcs
  ·have hne : rows.isEmpty = false := by
    cases rows with
    | nil => have := h1.1; simp at this; subst this; simp at hk
    | cons => rfl
   have hbT : b ∈ T := by simp [T, hne]
   rw [Addr.add_lit, Nat.zero_add]
   simp only [View.cell, U, if_pos hbT, if_true, Option.isSome_none, Bool.false_eq_true, if_false, Option.bind_some]
   exact hk
theorem wJ {V : View} {w : World} (hm : Mod V w) : ∀ {cs : List At} {l : List Value} {Ss : List (List Nat)}, l.length = cs.length → Ss.length = cs.length →
    (∀ (k : Nat) (x : At) (y : Value) (s : List Nat), cs[k]? = some x → l[k]? = some y → Ss[k]? = some s → rAt V w x y s) → (∀ b ∈ Ss.flatten, ∀ c, V b = some c → Unf w b) → cs.all jQ = true → ∃ Ps, oL w cs l Ps ∧ (trs Ps).Sublist Ss.flatten
 | [], l, Ss, hl, hS, _, _, _ => ⟨[], ⟨hl, rfl, fun k a y p h => by simp at h⟩, by simp [trs]⟩
 | c :: cs, [], Ss, hl, _, _, _, _ => by simp at hl
 | c :: cs, y :: l, [], _, hS, _, _, _ => by simp at hS
 | c :: cs, y :: l, S :: Ss, hl, hS, hk, hu, hw => by
  simp only [List.all_cons, Bool.and_eq_true] at hw
  obtain ⟨Ps, h1, h2⟩ := wJ hm (cs := cs) (l := l) (Ss := Ss) (by simpa using hl) (by simpa using hS) (fun k x y s e1 e2 e3 => hk (k + 1) x y s (by simpa using e1) (by simpa using e2) (by simpa using e3))
   (fun b hb => hu b (by simp only [List.flatten_cons]; exact List.mem_append.2 (.inr hb))) hw.2
  have hy := hk 0 c y S rfl rfl rfl
  have mk : ∀ p : List Nat × List Value, oAt w c y p → p.1.Sublist S → ∃ Ps, oL w (c :: cs) (y :: l) Ps ∧ (trs Ps).Sublist (S :: Ss).flatten := fun p hp hs =>
   ⟨p :: Ps, ⟨by simp [h1.1], by simp [h1.2.1], fun k a' y' p' e1 e2 e3 => by
    cases k with
    | zero => simp at e1 e2 e3; subst e1; subst e2; subst e3; exact hp
    | succ k => exact h1.2.2 k a' y' p' (by simpa using e1) (by simpa using e2) (by simpa using e3)⟩, by
    simp only [trs, List.map_cons, List.flatten_cons]
    exact hs.append h2⟩
  cases c with
  | d x => cases x with
   | v x =>
    obtain ⟨rfl, T, hT⟩ := hy
    cases hT with
    | v _ hsc => exact mk ([], []) ⟨rfl, hsc, rfl⟩ (List.Sublist.refl _)
   | sl r => simp [jQ] at hw
  | w ty sz rows =>
   obtain ⟨p, hp1, hp2⟩ := a0P hy (fun b hb => hu b (by simp only [List.flatten_cons]; exact List.mem_append.2 (.inl hb))) hm
   exact mk p hp2 hp1
  | _ => simp [jQ] at hw
theorem nZ : ∀ (j : Nat) (cs : List At) (l : List Value) (Ps : List (List Nat × List Value)), rW (fun _ => none) j cs l Ps
 | j, [], _, _ => by cases ‹List Value› <;> trivial
 | j, c :: cs, [], _ => by cases c <;> trivial
 | j, c :: cs, y :: l, [] => by cases c <;> trivial
 | j, c :: cs, y :: l, p :: Ps => by
  cases c <;> first | exact nZ _ cs l Ps | exact ⟨fun q h => (by cases h), nZ _ cs l Ps⟩
theorem Mod.of_le {V V' : View} {w : World} (h : Mod V' w) (hv : V.le V') : Mod V w := fun b cs hb => by
 obtain ⟨cs', h1, h2⟩ := hv b cs hb
 obtain ⟨c, ty, fz, e1, e2⟩ := h b cs' h1
 exact ⟨c, ty, fz, e1, h2.trans e2⟩
theorem a1P (tg : Nat → Option (Value × List Nat × List Value)) : ∀ (j : Nat) (cs : List At), (adG tg j cs).length = (adH cs).length
 | _, [] => rfl
 | j, c :: cs => by cases c <;> simp [adG, adH, a1P]
theorem CallS.lend {E : Env} {f : Nat} {args args' : List SV} {res : SV} {st : St} {K : St → SV → Prop} (h : FnC E.P f args' res) (he : args.map (cO st.h) = args') (hfree : args'.all bJ = true) (hres : res.all.all jQ = true)
    (k : K ⟨st.t, st.h ++ adG (fun _ => none) 0 res.all⟩ (adS st.h.length res)) : CallS E f args st K := by
 refine ⟨h.enters, fun g V a w vs hr hlen hargs => ?_⟩
 subst he
 have hc : jA (fU V w) (args.map (cO st.h)) vs := by
  refine ⟨by simp [hlen], fun i s y h1 h2 => ?_⟩
  have hs := List.all_eq_true.1 hfree s (List.mem_of_getElem? h1)
  rw [List.getElem?_map] at h1
  cases hk : args[i]? with
  | none => rw [hk] at h1; cases h1
  | some s0 =>
   rw [hk] at h1
   cases h1
   exact gP (qW hr (hargs i s0 y hk h2)) hs
 refine (h.calls (fU V w) w vs hr.tab (jP hr.mod) hc).mono ?_
 rintro e w' ⟨y, rfl, ⟨V', S, hv, hm, hnew, ⟨l, hshape, Ss, r1, r2, r3, r4⟩, hnd, hblk⟩, hbelow⟩
 have hVV' : V.le V' := (iK V w).trans hv
 have hr1 : Rel E.C g V st a w' := hr.later (View.le.refl V) (hm.of_le hVV') hbelow (fun b cs h1 h2 => by rw [h1] at h2; cases h2)
 subst r3
 have hfresh : ∀ b, w.heap.size ≤ b → fU V w b = none := fun b hb => (jP hr.mod).fresh hb
 obtain ⟨Ps, hP, hsub⟩ := wJ hm r1 r2 r4 (fun b hb c hc => (hnew b c hc (hfresh b (hblk b hb).1)).2) hres
 obtain ⟨g', h1, h2, h3⟩ := wI (tg := fun _ => none) (j := 0) hr1 hP (hsub.nodup hnd) (fun b hb => by
  have hb' := hsub.subset hb
  refine ⟨.inl (Nat.le_trans hr.fr.size (hblk b hb').1), (hblk b hb').2, ?_, fun i hb2 x e1 e2 hm' => ?_⟩
  ·exact hr.mod.fresh (hblk b hb').1
  ·have := (hr.hp.lo i hb2 x e1 e2 b hm').2
   have := (hblk b hb').1
   omega) (nZ _ _ _ _)
 refine ⟨y, g', V, _, _, rfl, h1, ?_, k⟩
 cases res with
 | o x =>
  have hl : l = [y] := hshape
  subst hl
  simp only [SV.all] at h3
  simp only [adS]
  have hlen1 : (adA st.h.length [x]).length = 1 := iZ _ _
  match he' : adA st.h.length [x], hlen1 with
  | [z], _ =>
   rw [he'] at h3
   exact h3.2 0 z y rfl rfl
 | g cs => exact ⟨l, hshape, h3⟩
 | t cs =>
  obtain ⟨ls, e1, e2, e3, ys, e4, e5, e6⟩ := hshape
  subst e2
  refine ⟨ys, e4, by rw [e5, fT], fun i b c v hi hv' => ?_⟩
  have hlt : i < ls.length := by rw [e1, ← fT st.h.length cs]; exact (List.getElem?_eq_some_iff.1 hi).1
  have hm' : ls[i]? = some ls[i] := List.getElem?_eq_getElem hlt
  obtain ⟨⟨c0, hc0⟩, hcc⟩ := mW st.h.length cs ls e1 e3 h3 i b c _ hi hm'
  have := e6 i b c0 _ v hc0 hm' hv'
  cases b with
  | true => simp only [if_true] at this ⊢; exact ⟨_, this, hcc⟩
  | false => simp only [Bool.false_eq_true, if_false] at this ⊢; rw [← this]; exact hcc
theorem LayL.flat {V V' : View} {ds : List D} {ys : List Value} {Ss : List (List Nat)} (h : LayL V' ds ys Ss) (hf : ds.all isV = true) : LayL V ds ys Ss :=
 ⟨h.1, h.2.1, fun k d y S h1 h2 h3 => by
  have := h.2.2 k d y S h1 h2 h3
  have hv := List.all_eq_true.1 hf d (List.mem_of_getElem? h1)
  cases d with
  | v x => cases this with
   | v _ h => exact .v _ h
  | sl rows => cases hv⟩
theorem CallS.lendD {E : Env} {f ty sz : Nat} {rows : List (List D)} {args args' : List SV} {st : St} {K : St → SV → Prop} (h : FnC E.P f args' (.o (.w ty sz rows))) (he : args.map (cO st.h) = args') (hfree : args'.all bJ = true) (hflat : iR rows = true)
    (k : K st (.o (.d (.sl rows)))) : CallS E f args st K := by
 refine ⟨h.enters, fun g V a w vs hr hlen hargs => ?_⟩
 subst he
 have hc : jA (fU V w) (args.map (cO st.h)) vs := by
  refine ⟨by simp [hlen], fun i s y h1 h2 => ?_⟩
  have hs := List.all_eq_true.1 hfree s (List.mem_of_getElem? h1)
  rw [List.getElem?_map] at h1
  cases hk : args[i]? with
  | none => rw [hk] at h1; cases h1
  | some s0 =>
   rw [hk] at h1
   cases h1
   exact gP (qW hr (hargs i s0 y hk h2)) hs
 refine (h.calls (fU V w) w vs hr.tab (jP hr.mod) hc).mono ?_
 rintro e w' ⟨y, rfl, ⟨V', S, hv, hm, hnew, ⟨l, hshape, Ss, r1, r2, r3, r4⟩, hnd, hblk⟩, hbelow⟩
 have hVV' : V.le V' := (iK V w).trans hv
 have hl : l = [y] := hshape
 subst hl
 have hr0 : Rel E.C g V st a w' := hr.later (View.le.refl V) (hm.of_le hVV') hbelow (fun b cs h1 h2 => by rw [h1] at h2; cases h2)
 match Ss, r2 with
 | [s], _ =>
  obtain ⟨p0, ys, Ts, p1, p2⟩ := r4 0 _ y s rfl rfl rfl
  have hfl : rows.flatten.all isV = true := by
   rw [List.all_eq_true]
   intro d hd
   obtain ⟨r, hr', hd'⟩ := List.mem_flatten.1 hd
   exact List.all_eq_true.1 (List.all_eq_true.1 hflat r hr') d hd'
  rcases p2 with ⟨⟨ao, rfl⟩, rfl, _⟩ | ⟨b, cap, c, rfl, q2, q3, q4, q5, q6, q7, q8⟩
  ·refine ⟨_, g, V, st, .o (.d (.sl [])), rfl, hr0, ?_, k⟩
   cases ao with
   | none => exact ⟨_, .nil⟩
   | some ad => exact ⟨_, .sl [] ad 0 sz [] [] (fun r h => by simp at h) (by simp) (by simp) rfl rfl (fun k y h => by simp at h) (fun k d y S h => by simp at h)⟩
  ·have hbS : b ∈ S := by rw [r3]; simp [q8]
   have hb := hblk b hbS
   have hVb : V b = none := hr.mod.fresh hb.1
   have hle : V.le (fun n => if n = b then some ys else V n) := fun n cs hn => by
    have : n ≠ b := fun e => by rw [e, hVb] at hn; cases hn
    exact ⟨cs, by simp [this, hn], List.prefix_refl _⟩
   refine ⟨_, g, fun n => if n = b then some ys else V n, st, .o (.d (.sl rows)), rfl, hr.later hle ?_ hbelow ?_, ⟨_, .sl rows ⟨b, 0, none⟩ cap sz ys Ts p0 q2 q3 p1.1 p1.2.1 (fun j y hj => ?_) (p1.flat hfl).2.2⟩, k⟩
   ·intro n cs hn
    by_cases e : n = b
    ·subst e
     simp only [if_true, Option.some.injEq] at hn
     subst hn
     exact ⟨c, ty, (0, 0), q4, q6⟩
    ·simp only [if_neg e] at hn
     exact hr0.mod n cs hn
   ·intro n cs hn hn0
    by_cases e : n = b
    ·subst e; exact ⟨hb.1, c, ty, q4⟩
    ·simp only [if_neg e] at hn
     rw [hn] at hn0; cases hn0
   ·rw [Addr.add_lit, Nat.zero_add]
    simp [View.cell, hj]
end Go.Sx
end
section
set_option linter.all false
namespace Go.Sx
open Go Go.RowKit
def isD : At → Bool
 | .d _ => true
 | _ => false
structure CallD (E : Env) (f : Nat) (args : List SV) (h : List HB) (k : SV → Prop) (t : Tie k) : Prop where
 out : (∃ args' res, FnC E.P f args' res ∧ (args.map (dH h) = args' ∨ (args.map (cO h) = args' ∧ res.all.all jQ = true)) ∧ args'.all bJ = true ∧ res.all.all isD = true ∧ k res) ∨
  ∃ args' ty sz rows, FnC E.P f args' (.o (.w ty sz rows)) ∧ args.map (cO h) = args' ∧ args'.all bJ = true ∧ iR rows = true ∧ k (.o (.d (.sl rows)))
def bndR (ρ : Operand → SV) (dflt : Nat) : Option Operand → Option Int
 | none => some dflt
 | some x => match ρ x with
  | .o (.d (.v (.int _ n))) => some n
  | _ => none
theorem xQ (st : St) (n : Nat) (x : Option Operand) : bndR (ev st) n x = bnd st n x := by
 cases x <;> rfl
def lX (E : Env) (t : Nat) (x : SV) (lo hi : Option Operand) (ρ : Operand → SV) (h : List HB) (k : SV → Prop) : Prop :=
 match x with
 | .o (.d (.v (.string s))) => match bndR ρ 0 lo, bndR ρ s.size hi with
  | some l, some h => (E.T t).tag = 5 ∧ 0 ≤ l ∧ l ≤ h ∧ h ≤ s.size ∧ k (os (s.extract l.toNat h.toNat))
  | _, _ => False
 | .o (.d (.sl rows)) => match bndR ρ 0 lo, bndR ρ rows.length hi with
  | some l, some h => (E.T t).tag = 2 ∧ (E.T (E.T t).elem).tag ≠ 0 ∧ (∀ r ∈ rows, r.length = (E.T (E.T t).elem).size) ∧ 0 ≤ l ∧ l ≤ h ∧ h ≤ rows.length ∧ k (.o (.d (.sl ((rows.take h.toNat).drop l.toNat))))
  | _, _ => False
 | .o (.s id) => match bK h id with
  | .frz rows _ => match bndR ρ 0 lo, bndR ρ rows.length hi with
   | some l, some h => (E.T t).tag = 2 ∧ (E.T (E.T t).elem).tag ≠ 0 ∧ uni (E.T (E.T t).elem).size rows ∧ 0 ≤ l ∧ l ≤ h ∧ h ≤ rows.length ∧ k (.o (.d (.sl ((rows.take h.toNat).drop l.toNat))))
   | _, _ => False
  | _ => False
 | _ => False
def iL (E : Env) (ρ : Operand → SV) (flds : List (Nat × Nat)) : List At → List (Nat × Operand) → Option (List At)
 | cs, [] => some cs
 | cs, (i, x) :: r => match nthP flds i with
  | some (o, ft) => if gN (ρ x) && (ρ x).cells.length == (E.T ft).size then (bI cs o (ρ x).cells).bind fun cs' => iL E ρ flds cs' r else none
  | none => none
theorem wK (E : Env) (st : St) (flds : List (Nat × Nat)) : ∀ (l : List (Nat × Operand)) (cs : List At), iL E (ev st) flds cs l = kQ E st flds cs l
 | [], _ => rfl
 | (i, x) :: r, cs => by
  have ih : (fun cs' => iL E (ev st) flds cs' r) = fun cs' => kQ E st flds cs' r := funext fun cs' => wK E st flds r cs'
  simp only [iL, kQ, ih]
  cases nthP flds i <;> rfl
theorem pJ (E : Env) {ρ ρ' : Operand → SV} (flds : List (Nat × Nat)) : ∀ (l : List (Nat × Operand)) (cs : List At), (∀ p ∈ l, ρ p.2 = ρ' p.2) → iL E ρ flds cs l = iL E ρ' flds cs l
 | [], _, _ => rfl
 | (i, x) :: r, cs, h => by
  have h1 : ρ x = ρ' x := h (i, x) (by simp)
  have ih : (fun cs' => iL E ρ flds cs' r) = fun cs' => iL E ρ' flds cs' r := funext fun cs' => pJ E flds r cs' fun p hp => h p (by simp [hp])
  simp only [iL, h1, ih]
def lY (E : Env) (t : Nat) (parts : List (Nat × Operand)) (ρ : Operand → SV) (k : SV → Prop) : Prop :=
 match iL E ρ (E.T t).flds (E.T t).zero parts with
 | some cs => (E.T t).tag = 1 ∧ (E.T t).flds.all (fun p => (E.T p.2).tag != 0) = true ∧ k (.g cs)
 | none => False
def vcD (E : Env) (op : Op) (ρ : Operand → SV) (h : List HB) (k : SV → Prop) : Prop :=
 match op with
 | .move x => k (ρ x)
 | .assign x => k (ρ x)
 | .pick c x y => kL (ρ c) (k (ρ x)) (k (ρ y)) ⟨⟩ ⟨⟩
 | .load t x => oI E t (ρ x) ⟨[], h⟩ fun _ s => k s
 | .fieldAddr t x f => eT E t (ρ x) f ⟨[], h⟩ fun _ s => k s
 | .field t x f => kM E t (ρ x) f ⟨[], h⟩ fun _ s => k s
 | .indexAddr t x i => fO E t (ρ x) (ρ i) ⟨[], h⟩ fun _ s => k s
 | .index t x i => kN E t (ρ x) (ρ i) ⟨[], h⟩ fun _ s => k s
 | .binOp op t x y _ => kP E op t (ρ x) (ρ y) ⟨[], h⟩ fun _ s => k s
 | .unOp op _ x => a1g op (ρ x) ⟨[], h⟩ fun _ s => k s
 | .convert s d x => oJ E s d (ρ x) ⟨[], h⟩ fun _ s => k s
 | .extract x i => gI (ρ x) i ⟨[], h⟩ fun _ s => k s
 | .call c => match c.callee with
  | .value f => match ρ f with
   | .o (.f fn caps) => CallD E fn (c.args.toList.map ρ ++ caps.map (fun cs => .o (.q cs))) h k ⟨⟩
   | _ => False
  | .builtin .len => match c.args.toList, c.argTypes.toList with
   | [x], [t] => uM E t (ρ x) ⟨[], h⟩ fun _ s => k s
   | _, _ => False
  | .builtin .max => match c.args.toList with
   | [x, y] => uN (ρ x) (ρ y) k
   | _ => False
  | _ => False
 | .slice t x lo hi none => lX E t (ρ x) lo hi ρ h k
 | .build t parts => lY E t parts.toList ρ k
 | .nilCheck x => nA (ρ x) ⟨[], h⟩ fun _ s => k s
 | _ => False
theorem CallD.of_fn {E : Env} {f : Nat} {args args' : List SV} {res : SV} {h : List HB} {k : SV → Prop} (hf : FnC E.P f args' res) (h1 : args.map (dH h) = args') (h2 : args'.all bJ = true) (h3 : res.all.all isD = true) (hk : k res) : CallD E f args h k ⟨⟩ :=
 ⟨.inl ⟨args', res, hf, .inl h1, h2, h3, hk⟩⟩
theorem CallD.of_lend {E : Env} {f ty sz : Nat} {rows : List (List D)} {args args' : List SV} {h : List HB} {k : SV → Prop} (hf : FnC E.P f args' (.o (.w ty sz rows))) (h1 : args.map (cO h) = args') (h2 : args'.all bJ = true) (h3 : iR rows = true) (hk : k (.o (.d (.sl rows)))) : CallD E f args h k ⟨⟩ :=
 ⟨.inr ⟨args', ty, sz, rows, hf, h1, h2, h3, hk⟩⟩
theorem pK : ∀ (n : Nat) (cs : List At), cs.all isD = true → adA n cs = cs ∧ adH cs = []
 | _, [], _ => ⟨rfl, rfl⟩
 | n, c :: cs, h => by
  simp only [List.all_cons, Bool.and_eq_true] at h
  obtain ⟨e1, e2⟩ := pK n cs h.2
  cases c <;> simp_all [isD, adA, adH]
theorem a1Q : ∀ (n : Nat) (l : List (Bool × List At)), (l.flatMap (·.2)).all isD = true → adT n l = l
 | _, [], _ => rfl
 | n, (b, cs) :: l, h => by
  simp only [List.flatMap_cons, List.all_append, Bool.and_eq_true] at h
  obtain ⟨e1, e2⟩ := pK n cs h.1
  simp only [adT, e1, e2, List.length_nil, Nat.add_zero, a1Q n l h.2]
theorem a4J (n : Nat) (s : SV) (h : s.all.all isD = true) : adS n s = s ∧ adH s.all = [] := by
 refine ⟨?_, (pK n s.all h).2⟩
 cases s with
 | o a =>
  have := (pK n [a] h).1
  cases a <;> simp_all [SV.all, isD, adS, adA]
 | g cs => simp only [adS, (pK n cs h).1]
 | t l => simp only [adS, a1Q n l h]
section
variable {E : Env}
theorem zM {op : Op} {st : St} {k : SV → Prop} (h : vcD E op (ev st) st.h k) : bC E op st fun st' s => st' = st ∧ k s := by
 unfold vcD at h
 split at h
 ·exact ⟨rfl, h⟩
 ·exact ⟨rfl, h⟩
 ·simp only [bC]
  unfold kL at h ⊢
  split at h
  ·exact ⟨fun hb => ⟨rfl, h.1 hb⟩, fun hb => ⟨rfl, h.2 hb⟩⟩
  ·exact h.elim
 ·simp only [bC]
  unfold oI at h ⊢
  (repeat' split at h) <;> simp_all
 ·simp only [bC]
  unfold eT at h ⊢
  (repeat' split at h) <;> simp_all
 ·simp only [bC]
  unfold kM at h ⊢
  (repeat' split at h) <;> simp_all
 ·simp only [bC]
  unfold fO at h ⊢
  obtain ⟨h1, h2, h⟩ := h
  refine ⟨h1, h2, ?_⟩
  (repeat' split at h) <;> simp_all
  all_goals
   obtain ⟨_, _, rfl, h4⟩ := h
   exact h4
 ·simp only [bC]
  unfold kN at h ⊢
  (repeat' split at h) <;> simp_all
 ·rename_i op t x y _
  simp only [bC]
  have hne : ∀ {y' : SV}, kP E op t (ev st x) y' ⟨[], st.h⟩ (fun _ s => k s) → y' ≠ .o .z := fun h e => by
   subst e
   unfold kP at h
   split at h <;> first | (rename_i e1 e2; cases e2) | exact h
  unfold zW
  split
  ·rename_i e
   exact (hne h e).elim
  unfold kP at h ⊢
  split at h
  ·rename_i e1 e2
   unfold a2I at h ⊢
   cases op <;> first | exact ⟨h.1, rfl, h.2⟩ | exact ⟨h.1, h.2.1, rfl, h.2.2⟩ | exact h.2.elim
  ·rename_i e1 e2
   unfold wO at h ⊢
   cases op <;> first | exact ⟨h.1, rfl, h.2⟩ | exact h.elim
  ·rename_i e1 e2
   refine ⟨h.1, ?_⟩
   have := h.2
   unfold a3H at this ⊢
   cases op <;> first | exact ⟨this.1, rfl, this.2⟩ | exact this.elim
  ·rename_i e1 e2
   refine ⟨h.1, h.2.1, h.2.2.1, ?_⟩
   have := h.2.2.2
   split at this <;> first | exact ⟨rfl, this⟩ | exact this.elim
  ·exact h.elim
 ·simp only [bC]
  unfold a1g at h ⊢
  (repeat' split at h) <;> simp_all
 ·simp only [bC]
  unfold oJ at h ⊢
  (repeat' split at h) <;> simp_all
 ·simp only [bC]
  unfold gI at h ⊢
  (repeat' split at h) <;> simp_all
 ·rename_i c
  split at h
  ·rename_i f hc
   simp only [bC, eP, hc]
   split at h
   ·rename_i fn caps e
    obtain ⟨⟨args', res, c1, c2, c3, c4, c5⟩ | ⟨args', ty, sz, rows, c1, c2, c3, c4, c5⟩⟩ := h
    case inr =>
     rw [e]
     exact ⟨CallS.lendD c1 c2 c3 c4 ⟨rfl, c5⟩⟩
    rw [e]
    obtain ⟨e1, e2⟩ := a4J st.h.length res c4
    rcases c2 with c2 | ⟨c2, c6⟩
    ·refine ⟨CallS.of_fn c1 c2 c3 ?_⟩
     rw [e1, e2, List.append_nil]
     exact ⟨rfl, c5⟩
    ·refine ⟨CallS.lend c1 c2 c3 c6 ?_⟩
     have e3 : adG (fun _ => none) 0 res.all = [] := List.eq_nil_of_length_eq_zero (by rw [a1P, e2]; rfl)
     rw [e1, e3, List.append_nil]
     exact ⟨rfl, c5⟩
   ·exact h.elim
  ·rename_i hc
   simp only [bC, eP, hc]
   split at h
   ·rename_i x t e1 e2
    rw [e1, e2]
    unfold uM at h ⊢
    (repeat' split at h) <;> simp_all
   ·exact h.elim
  ·rename_i hc
   simp only [bC, eP, hc]
   split at h
   ·rename_i x y e1
    rw [e1]
    unfold uN at h ⊢
    (repeat' split at h) <;> simp_all
   ·exact h.elim
  ·exact h.elim
 ·rename_i t x lo hi
  unfold lX at h
  split at h
  ·rename_i s e
   have hv : jD E t (ev st x) lo hi none st (fun st' s => st' = st ∧ k s) := by
    rw [e]
    unfold jD
    simp only [← xQ]
    split at h
    ·rename_i l hh e1 e2
     simp only [e1, e2]
     exact ⟨h.1, h.2.1, h.2.2.1, h.2.2.2.1, trivial, h.2.2.2.2⟩
    ·exact h.elim
   simp only [bC, e] at hv ⊢
   exact hv
  ·rename_i rows e
   have hv : jD E t (ev st x) lo hi none st (fun st' s => st' = st ∧ k s) := by
    rw [e]
    unfold jD
    simp only [← xQ]
    split at h
    ·rename_i l hh e1 e2
     simp only [e1, e2]
     exact ⟨h.1, h.2.1, h.2.2.1, h.2.2.2.1, h.2.2.2.2.1, h.2.2.2.2.2.1, trivial, h.2.2.2.2.2.2⟩
    ·exact h.elim
   simp only [bC, e] at hv ⊢
   exact hv
  ·rename_i id e
   split at h
   ·rename_i rows lin en
    have hv : jV E t id lo hi st (fun st' s => st' = st ∧ k s) := by
     unfold jV jJ
     simp only [en, ← xQ]
     split at h
     ·rename_i l hh e1 e2
      simp only [e1, e2]
      refine ⟨h.1, h.2.1, h.2.2.1, h.2.2.2.1, h.2.2.2.2.1, h.2.2.2.2.2.1, ?_, h.2.2.2.2.2.2⟩
      simp only [aQ, en]
     ·exact h.elim
    simp only [bC, e]
    exact hv
   ·exact h.elim
  ·exact h.elim
 ·rename_i t parts
  unfold lY at h
  simp only [bC]
  unfold pW
  rw [wK] at h
  split at h
  ·rename_i cs e
   rw [e]
   exact ⟨h.1, h.2.1, rfl, h.2.2⟩
  ·exact h.elim
 ·simp only [bC]
  unfold nA at h ⊢
  split at h <;> simp_all
 ·exact h.elim
theorem a5W {c b : Bool} (h : ¬ c = b) : c = !b := by revert h; cases c <;> cases b <;> simp
theorem a5I {c b : Bool} (h : c = b) (k : c = !b) : False := by subst h; cases c <;> simp at k
theorem sZ {op : Op} {ρ : Operand → SV} {hh : List HB} {k : SV → Prop} (h : vcD E op ρ hh k) : ∃ s, k s ∧ ∀ k' : SV → Prop, k' s → vcD E op ρ hh k' := by
 unfold vcD at h ⊢
 split at h
 ·exact ⟨_, h, fun k' h => h⟩
 ·exact ⟨_, h, fun k' h => h⟩
 ·unfold kL at h ⊢
  split at h
  ·rename_i b e
   cases b with
   | true => exact ⟨_, h.1 rfl, fun k' hk => by simp [hk]⟩
   | false => exact ⟨_, h.2 rfl, fun k' hk => by simp [hk]⟩
  ·exact h.elim
 ·unfold oI at h ⊢
  (repeat' split at h) <;> first | exact h.elim | exact ⟨_, h.2, fun k' hk => ⟨h.1, hk⟩⟩ | exact ⟨_, h.2.2.2, fun k' hk => ⟨h.1, h.2.1, h.2.2.1, hk⟩⟩
 ·unfold eT at h ⊢
  split at h
  ·obtain ⟨h1, h2, h⟩ := h
   split at h <;> first | exact h.elim | exact ⟨_, h, fun k' hk => ⟨h1, h2, hk⟩⟩
  ·exact h.elim
 ·unfold kM at h ⊢
  (repeat' split at h) <;> first | exact h.elim | exact ⟨_, h.2.2, fun k' hk => ⟨h.1, h.2.1, hk⟩⟩
 ·unfold fO at h ⊢
  obtain ⟨h1, h2, h⟩ := h
  (repeat' split at h) <;> first | exact h.elim | exact ⟨_, h.2.2.2, fun k' hk => ⟨h1, h2, h.1, h.2.1, h.2.2.1, hk⟩⟩
 ·unfold kN at h ⊢
  (repeat' split at h) <;> first | exact h.elim | exact ⟨_, h.2.2.2, fun k' hk => ⟨h.1, h.2.1, h.2.2.1, hk⟩⟩
 ·rename_i op t x y _
  unfold kP at h ⊢
  split at h
  ·unfold a2I at h ⊢
   cases op <;> first | exact h.2.elim | exact ⟨_, h.2.2, fun k' hk => ⟨h.1, h.2.1, hk⟩⟩ | exact ⟨_, h.2, fun k' hk => ⟨h.1, hk⟩⟩
  ·unfold wO at h ⊢
   cases op <;> first | exact h.elim | exact ⟨_, h.2, fun k' hk => ⟨h.1, hk⟩⟩
  ·obtain ⟨h1, h⟩ := h
   unfold a3H at h ⊢
   cases op <;> first | exact h.elim | exact ⟨_, h.2, fun k' hk => ⟨h1, h.1, hk⟩⟩
  ·obtain ⟨h1, h2, h3, h⟩ := h
   cases op <;> first | exact h.elim | exact ⟨_, h, fun k' hk => ⟨h1, h2, h3, hk⟩⟩
  ·exact h.elim
 ·unfold a1g at h ⊢
  (repeat' split at h) <;> first | exact h.elim | exact ⟨_, h, fun k' hk => hk⟩ | exact ⟨_, h.2, fun k' hk => ⟨h.1, hk⟩⟩
 ·unfold oJ at h ⊢
  (repeat' split at h) <;> first | exact h.elim | exact ⟨_, h.2.2.2, fun k' hk => ⟨h.1, h.2.1, h.2.2.1, hk⟩⟩
 ·unfold gI at h ⊢
  split at h
  ·split at h
   ·exact ⟨_, h, fun k' hk => hk⟩
   ·exact h.elim
  ·exact h.elim
 ·rename_i c
  split at h
  ·rename_i f hc
   split at h
   ·obtain ⟨⟨args', res, c1, c2, c3, c4, c5⟩ | ⟨args', ty, sz, rows, c1, c2, c3, c4, c5⟩⟩ := h
    ·exact ⟨res, c5, fun k' hk => ⟨.inl ⟨args', res, c1, c2, c3, c4, hk⟩⟩⟩
    ·exact ⟨_, c5, fun k' hk => ⟨.inr ⟨args', ty, sz, rows, c1, c2, c3, c4, hk⟩⟩⟩
   ·exact h.elim
  ·rename_i hc
   split at h
   ·unfold uM at h ⊢
    (repeat' split at h) <;> first | exact h.elim | exact h.2.elim | exact ⟨_, h.2, fun k' hk => ⟨h.1, hk⟩⟩
   ·exact h.elim
  ·rename_i hc
   split at h
   ·unfold uN at h ⊢
    (repeat' split at h) <;> first | exact h.elim | exact ⟨_, h, fun k' hk => hk⟩
   ·exact h.elim
  ·exact h.elim
 ·unfold lX at h ⊢
  split at h
  ·split at h
   ·exact ⟨_, h.2.2.2.2, fun k' hk => ⟨h.1, h.2.1, h.2.2.1, h.2.2.2.1, hk⟩⟩
   ·exact h.elim
  ·split at h
   ·exact ⟨_, h.2.2.2.2.2.2, fun k' hk => ⟨h.1, h.2.1, h.2.2.1, h.2.2.2.1, h.2.2.2.2.1, h.2.2.2.2.2.1, hk⟩⟩
   ·exact h.elim
  ·split at h
   ·split at h
    ·exact ⟨_, h.2.2.2.2.2.2, fun k' hk => ⟨h.1, h.2.1, h.2.2.1, h.2.2.2.1, h.2.2.2.2.1, h.2.2.2.2.2.1, hk⟩⟩
    ·exact h.elim
   ·exact h.elim
  ·exact h.elim
 ·unfold lY at h ⊢
  split at h
  ·exact ⟨_, h.2.2, fun k' hk => ⟨h.1, h.2.1, hk⟩⟩
  ·exact h.elim
 ·unfold nA at h ⊢
  split at h <;> first | exact h.elim | exact ⟨_, h, fun k' hk => hk⟩
 ·exact h.elim
theorem mY {op : Op} {ρ ρ' : Operand → SV} {hh : List HB} {k : SV → Prop} (he : ∀ x ∈ op.operands, ρ x = ρ' x) (h : vcD E op ρ hh k) : vcD E op ρ' hh k := by
 unfold vcD at h ⊢
 split at h <;> simp only [Op.operands] at he
 case h_3 c x y =>
  have e1 : ρ c = ρ' c := he c (by simp)
  have e2 : ρ x = ρ' x := he x (by simp)
  have e3 : ρ y = ρ' y := he y (by simp)
  rw [e1, e2, e3] at h
  exact h
 case h_13 c =>
  have hargs : c.args.toList.map ρ = c.args.toList.map ρ' := List.map_congr_left fun x hx => he x (by simp only [Call.operands, Array.mem_append]; exact .inr (by simpa using hx))
  split at h
  ·rename_i f hc
   have hf : ρ f = ρ' f := he f (by simp [Call.operands, hc])
   rwa [hf, hargs] at h
  ·rename_i hc
   split at h
   ·rename_i x t e1 e2
    have hx : ρ x = ρ' x := he x (by
     have : x ∈ c.args := by rw [← Array.mem_toList_iff, e1]; simp
     simp [Call.operands, this])
    rwa [hx] at h
   ·exact h.elim
  ·rename_i hc
   split at h
   ·rename_i x y e1
    have hx : ρ x = ρ' x := he x (by
     have : x ∈ c.args := by rw [← Array.mem_toList_iff, e1]; simp
     simp [Call.operands, this])
    have hy : ρ y = ρ' y := he y (by
     have : y ∈ c.args := by rw [← Array.mem_toList_iff, e1]; simp
     simp [Call.operands, this])
    rwa [hx, hy] at h
   ·exact h.elim
  ·exact h.elim
 case h_14 t x lo hi =>
  have e1 : ρ x = ρ' x := he x (by simp)
  have e2 : ∀ n, bndR ρ n lo = bndR ρ' n lo := fun n => by
   cases lo with
   | none => rfl
   | some y => simp only [bndR]; rw [he y (by simp)]
  have e3 : ∀ n, bndR ρ n hi = bndR ρ' n hi := fun n => by
   cases hi with
   | none => rfl
   | some y => simp only [bndR]; rw [he y (by simp)]
  unfold lX at h ⊢
  simp only [e2, e3] at h
  rw [← e1]
  exact h
 case h_15 t parts =>
  unfold lY at h ⊢
  rw [← pJ E (ρ := ρ) _ parts.toList _ fun p hp => he p.2 (by simp only [List.mem_toArray, List.mem_map]; exact ⟨p, hp, rfl⟩)]
  exact h
 all_goals first
  | exact h.elim
  | (simp only [List.mem_toArray, List.mem_cons, List.not_mem_nil, or_false, forall_eq_or_imp, forall_eq] at he; simp_all)
def sop (E : Env) (all : List Oper) (o : Oper) (st : St) (K : St → Prop) : Prop :=
 match o.guard with
 | none => vcD E o.op (ev st) st.h fun s => K (st.put o.dst s)
 | some (j, b) => bW (iY all j st) b (vcD E o.op (ev st) st.h fun s => K (st.put o.dst s)) (K (st.put o.dst (.t []))) ⟨⟩ ⟨⟩
def sK (E : Env) (all : List Oper) : List Oper → St → (St → Prop) → Prop
 | [], st, K => K st
 | o :: r, st, K => sop E all o st fun st' => sK E all r st' K
theorem xR {all : List Oper} {o : Oper} {st : St} {K : St → Prop} (h : sop E all o st K) : ∃ s, K (st.put o.dst s) ∧ ∀ K' : St → Prop, K' (st.put o.dst s) → sop E all o st K' := by
 unfold sop at h ⊢
 split at h
 ·rename_i hg
  obtain ⟨s, h1, h2⟩ := sZ h
  exact ⟨s, h1, fun K' hk => h2 (fun s => K' (st.put o.dst s)) hk⟩
 ·rename_i j b hg
  unfold bW at h ⊢
  split at h
  ·rename_i c e
   by_cases hcb : c = b
   ·obtain ⟨s, h1, h2⟩ := sZ (h.1 hcb)
    exact ⟨s, h1, fun K' hk => ⟨fun _ => h2 (fun s => K' (st.put o.dst s)) hk, fun hn => (a5I hcb hn).elim⟩⟩
   ·exact ⟨_, h.2 (a5W hcb), fun K' hk => ⟨fun e => (hcb e).elim, fun _ => hk⟩⟩
  ·exact ⟨_, h, fun K' hk => hk⟩
  ·exact h.elim
theorem a0Q {st : St} {d : Option Nat} {s : SV} {x : Operand} (h : ∀ e, d = some e → x ≠ .tmp e) : ev (st.put d s) x = ev st x := by
 cases d with
 | none => rfl
 | some d =>
  cases x with
  | tmp t =>
   have hne : d ≠ t := fun e => h d rfl (e ▸ rfl)
   simp only [ev, St.put, kK, jB, List.getD_eq_getElem?_getD, List.getElem?_set, if_neg hne]
  | _ => rfl
theorem zN (st : St) (d : Option Nat) (s : SV) : (st.put d s).h = st.h := by cases d <;> rfl
theorem kH (st : St) {x y : Option Nat} (v u : SV) (h : ∀ d, x = some d → y ≠ some d) : (st.put x v).put y u = (st.put y u).put x v := by
 cases x with
 | none => rfl
 | some d => cases y with
  | none => rfl
  | some e =>
   have hne : d ≠ e := fun he => h d rfl (he ▸ rfl)
   simp only [St.put, jB]
   rw [List.set_comm _ _ hne]
theorem wL {all : List Oper} {o : Oper} {j : Nat} {b : Bool} (hg : o.guard = some (j, b)) {st : St} {d : Option Nat} {s : SV} (h : ∀ e, d = some e → e ∉ o.looksAt all.toArray) : iY all j (st.put d s) = iY all j st := by
 unfold iY
 rw [mV]
 cases ho : all[j]? with
 | none => rfl
 | some o' =>
  simp only []
  cases hd : o'.dst with
  | none => rfl
  | some d' =>
   simp only []
   have : ev (st.put d s) (.tmp d') = ev st (.tmp d') := a0Q fun e he hx => by
    cases hx
    exact h d' he (by simp [Oper.looksAt, hg, ho, hd])
   exact this
theorem a4K {all : List Oper} {oi oj : Oper} {v : SV} {st : St} (hap : oi.apart all.toArray oj = true) {K : St → Prop} (h : sop E all oj (st.put oi.dst v) K) :
    ∃ u, K ((st.put oj.dst u).put oi.dst v) ∧ ∀ K' : St → Prop, K' (st.put oj.dst u) → sop E all oj st K' := by
 obtain ⟨h1, h2, h3⟩ := Oper.apart_spec hap
 have he : ∀ x ∈ oj.op.operands, ev (st.put oi.dst v) x = ev st x := fun x hx => a0Q fun e he hxe => by
  subst hxe
  exact h1 e he (List.mem_append_left _ (List.mem_filterMap.2 ⟨.tmp e, by simpa using hx, rfl⟩))
 have step : vcD E oj.op (ev (st.put oi.dst v)) (st.put oi.dst v).h (fun s => K ((st.put oi.dst v).put oj.dst s)) → ∃ u, K ((st.put oj.dst u).put oi.dst v) ∧ ∀ K' : St → Prop, K' (st.put oj.dst u) → vcD E oj.op (ev st) st.h fun s => K' (st.put oj.dst s) := fun h => by
  obtain ⟨u, k1, k2⟩ := sZ h
  refine ⟨u, by rw [← kH st v u h2]; exact k1, fun K' hk => ?_⟩
  have := k2 (fun s => K' (st.put oj.dst s)) hk
  rw [zN] at this
  exact mY he this
 unfold sop at h ⊢
 split at h
 ·rename_i hg
  exact step h
 ·rename_i j b hg
  rw [wL hg h1] at h
  unfold bW at h ⊢
  split at h
  ·rename_i c e
   by_cases hcb : c = b
   ·obtain ⟨u, k1, k2⟩ := step (h.1 hcb)
    exact ⟨u, k1, fun K' hk => ⟨fun _ => k2 K' hk, fun hn => (a5I hcb hn).elim⟩⟩
   ·exact ⟨.t [], by rw [← kH st v _ h2]; exact h.2 (a5W hcb), fun K' hk => ⟨fun e => (hcb e).elim, fun _ => hk⟩⟩
  ·exact ⟨.t [], by rw [← kH st v _ h2]; exact h, fun K' hk => hk⟩
  ·exact h.elim
def YieldsS (E : Env) (all : List Oper) (o : Oper) (s : SV) (st : St) : Prop := ∀ K : St → Prop, K (st.put o.dst s) → sop E all o st K
theorem YieldsS.keep {all : List Oper} {oi oj : Oper} {v u : SV} {st : St} (hap : oi.apart all.toArray oj = true) (h : YieldsS E all oi v st) : YieldsS E all oi v (st.put oj.dst u) := by
 obtain ⟨h1, h2, h3⟩ := Oper.apart_spec hap
 have he : ∀ x ∈ oi.op.operands, ev st x = ev (st.put oj.dst u) x := fun x hx => (a0Q fun e he hxe => by
  subst hxe
  exact h3 e he (List.mem_append_left _ (List.mem_filterMap.2 ⟨.tmp e, by simpa using hx, rfl⟩))).symm
 intro K hk
 have h0 := h (fun s => K (s.put oj.dst u)) (by rw [kH st v u h2]; exact hk)
 have step : (vcD E oi.op (ev st) st.h fun s => K ((st.put oi.dst s).put oj.dst u)) → vcD E oi.op (ev (st.put oj.dst u)) (st.put oj.dst u).h fun s => K ((st.put oj.dst u).put oi.dst s) := fun h => by
  rw [zN]
  refine mY he ?_
  have e : (fun s => K ((st.put oj.dst u).put oi.dst s)) = fun s => K ((st.put oi.dst s).put oj.dst u) := funext fun s => by rw [kH st s u h2]
  rw [e]; exact h
 unfold sop at h0 ⊢
 split at h0
 ·exact step h0
 ·rename_i j b hg
  rw [wL hg h3]
  unfold bW at h0 ⊢
  split at h0
  ·rename_i c e
   exact ⟨fun hc => step (h0.1 hc), fun hc => by rw [← kH st _ u h2]; exact h0.2 hc⟩
  ·rw [← kH st _ u h2]; exact h0
  ·exact h0.elim
def uC (E : Env) (md : Region.Mode) (all : List Oper) (K : St → Prop) : Nat → Array Bool → St → Prop
 | 0, listed, st => Region.ready md all.toArray listed = [] ∧ K st
 | fuel + 1, listed, st =>
  (Region.ready md all.toArray listed = [] → K st) ∧
  ∀ i ∈ Region.ready md all.toArray listed, ∀ o, all.toArray[i]? = some o → sop E all o st (uC E md all K fuel (listed.setIfInBounds i true))
theorem xS {md : Region.Mode} {all : List Oper} {K : St → Prop} {i : Nat} {oi : Oper} {v : SV} (hi : all.toArray[i]? = some oi) :
    ∀ (fuel : Nat) (listed : Array Bool) (st : St),
     (∀ j oj, all.toArray[j]? = some oj → j ≠ i → listed.getD j true = false → (∀ e ∈ oj.after, Region.binds md e = true → e.on ≠ i) → oi.apart all.toArray oj = true) →
     i ∈ Region.ready md all.toArray listed → YieldsS E all oi v st →
     uC E md all K fuel (listed.setIfInBounds i true) (st.put oi.dst v) → uC E md all K (fuel + 1) listed st := by
 intro fuel
 induction fuel with
 | zero =>
  intro listed st _ hr hy H
  refine ⟨fun h => (by rw [h] at hr; cases hr), fun j hj o ho => ?_⟩
  by_cases hji : j = i
  ·subst hji; rw [hi] at ho; cases ho; exact hy _ H
  ·have := ready_mono hj hji
   rw [H.1] at this
   cases this
 | succ fuel ih =>
  intro listed st hfree hr hy H
  refine ⟨fun h => (by rw [h] at hr; cases hr), fun j hj oj hoj => ?_⟩
  by_cases hji : j = i
  ·subst hji; rw [hi] at hoj; cases hoj; exact hy _ H
  ·have h1 := H.2 j (ready_mono hj hji) oj hoj
   obtain ⟨hjun, oj', hoj', hall⟩ := mem_ready.1 hj
   rw [hoj] at hoj'; cases hoj'
   have hnot : ∀ e ∈ oj.after, Region.binds md e = true → e.on ≠ i := fun e he hb heq => by
    have h1 := hall e he hb
    have h0 := (mem_ready.1 hr).1
    rw [heq] at h1
    rcases Nat.lt_or_ge i listed.size with h' | h'
    ·simp [h'] at h0 h1; rw [h0] at h1; cases h1
    ·simp [Array.getElem?_eq_none h'] at h1
   have hap := hfree j oj hoj hji hjun hnot
   obtain ⟨u, k1, k2⟩ := a4K hap h1
   have hfree' : ∀ k ok, all.toArray[k]? = some ok → k ≠ i → (listed.setIfInBounds j true).getD k true = false →
       (∀ e ∈ ok.after, Region.binds md e = true → e.on ≠ i) → oi.apart all.toArray ok = true := fun k ok hk hki hun hno => by
    refine hfree k ok hk hki ?_ hno
    by_cases hjk : j = k
    ·subst hjk; exact hjun
    ·rw [getD_set_ne true hjk] at hun; exact hun
   refine k2 _ (ih (listed.setIfInBounds j true) _ hfree' (ready_mono hr (Ne.symm hji)) (hy.keep hap) ?_)
   rw [Array.setIfInBounds_comm _ _ hji]
   exact k1
theorem uE {md : Region.Mode} {all : List Oper} {K : St → Prop} : ∀ (l : List Oper) (k : Nat) (listed : Array Bool) (st : St), (∀ j : Nat, l[j]? = all.toArray[k + j]?) →
    Region.lexFrom md all.toArray l.length k listed = true → sK E all l st K → uC E md all K l.length listed st
 | [], _, _, _, _, hB, h => ⟨by simpa [Region.lexFrom] using hB, h⟩
 | o :: l, k, listed, st, hl, hB, h => by
  have h0 : all.toArray[k]? = some o := by simpa using (hl 0).symm
  simp only [List.length_cons, Region.lexFrom, Bool.and_eq_true] at hB
  obtain ⟨⟨hr, hf⟩, hB'⟩ := hB
  obtain ⟨s, h1, h2⟩ := xR h
  exact xS h0 l.length listed st (Region.free_spec h0 hf) (by simpa using hr) h2
   (uE l (k + 1) _ _ (fun j => by have := hl (j + 1); simpa [Nat.add_assoc, Nat.add_comm 1 j] using this) hB' h1)
theorem a3o (hT : TyOK E.P E.T) (hE : ∀ t, E.eqk t ≠ [] → EqT E.P t (E.eqk t)) {all : List Oper} {o : Oper} {K : St → Prop} {K' : Act → World → Prop} {Q : Exit → Act → World → Prop} {i : Nat} (hi : all.toArray[i]? = some o)
    {st : St} {g : List Gh} {V : View} {a : Act} {w : World} (hr : Rel E.C g V st a w) (hK : ∀ g V st a w, Rel E.C g V st a w → K st → K' a w) (h : sop E all o st K) : wpOp E.P all.toArray Q i K' a w := by
 unfold wpOp
 simp only [hi]
 have hyes : (vcD E o.op (ev st) st.h fun s => K (st.put o.dst s)) → o.wp E.P a w K' Q := fun hk =>
  gM hT hE (zM hk) hr fun g' V' st' w' s y hr' hs hk => by
   obtain ⟨rfl, hk⟩ := hk
   exact hK _ _ _ _ _ (hr'.put o.dst hs) hk
 have hno : K (st.put o.dst (.t [])) → K' (a.put o.dst undef) w := fun hk => hK _ _ _ _ _ (hr.put o.dst (eU g V)) hk
 unfold sop at h
 split at h
 ·rename_i hgd
  simp only [Region.wanted, hgd, if_true]
  exact .inl (hyes h)
 ·rename_i j b hgd
  unfold bW at h
  split at h
  ·rename_i c e
   have hy := (kF hr.sl all j c).1 e
   simp only [Region.wanted, hgd, hy]
   by_cases hcb : c = b
   ·subst hcb
    simp only [beq_self_eq_true, if_true]
    exact .inl (hyes (h.1 rfl))
   ·have hne : (some c == some b) = false := by simpa using hcb
    rw [hne]
    simp only [Bool.false_eq_true, if_false]
    exact hno (h.2 (a5W hcb))
  ·rename_i e
   have hy := (kF hr.sl all j true).2 e
   simp only [Region.wanted, hgd, hy]
   have hne : ((none : Option Bool) == some b) = false := rfl
   rw [hne]
   simp only [Bool.false_eq_true, if_false]
   exact hno h
  ·exact h.elim
theorem uF (hT : TyOK E.P E.T) (hE : ∀ t, E.eqk t ≠ [] → EqT E.P t (E.eqk t)) {md : Region.Mode} {all : List Oper} {K : St → Prop} {Q : Exit → Act → World → Prop} (hQ : ∀ g V st a w, Rel E.C g V st a w → K st → Q .normal a w) :
    ∀ (fuel : Nat) (listed : Array Bool) (st : St) (g : List Gh) (V : View) (a : Act) (w : World), Rel E.C g V st a w → uC E md all K fuel listed st → wpAny E.P md all.toArray Q fuel listed a w
 | 0, _, _, _, _, _, _, hr, h => ⟨h.1, hQ _ _ _ _ _ hr h.2⟩
 | fuel + 1, listed, st, g, V, a, w, hr, h => ⟨fun h0 => hQ _ _ _ _ _ hr (h.1 h0), fun i hi => by
     obtain ⟨_, o, ho, _⟩ := mem_ready.1 hi
     exact a3o hT hE ho hr (fun g V st a w hr h => uF hT hE hQ fuel _ st g V a w hr h) (h.2 i hi o ho)⟩
theorem Rel.drawn {C : Ctx} {g : List Gh} {V : View} {st : St} {a : Act} {w : World} (h : Rel C g V st a w) : Rel C g V st a { w with drawn := w.drawn + 1 } :=
 ⟨h.sl, ⟨h.hp.1, h.hp.2, h.hp.3, h.hp.4, h.hp.5, h.hp.6⟩, h.mod, ⟨h.fr.os, h.fr.tape, h.fr.output, h.fr.size, h.fr.block⟩, h.vw.move fun _ _ _ => rfl⟩
theorem a4L (hT : TyOK E.P E.T) (hE : ∀ t, E.eqk t ≠ [] → EqT E.P t (E.eqk t)) (hm : E.P.follows .mixedOrders = true) {id : Nat} {ops : List Oper} {F : Ex → St → Prop} {st : St} (hB : Region.lexB .any ops.toArray = true) (h : sK E ops ops st (F .normal)) :
    WP E.P E.C (.region id ops.toArray true) F st := fun g V a w hr => by
 simp only [Region.lexB, Bool.and_eq_true] at hB
 refine wp_region_any hm ?_
 have := uE (E := E) (md := .any) (K := F .normal) ops 0 (Array.replicate ops.length false) st (by simp) (by simpa using hB.2) h
 exact uF hT hE (fun g V st _ _ hr h => ⟨g, V, st, hr, h⟩) _ _ st g V a _ hr.drawn (by simpa using this)
end
end Go.Sx
end
section
set_option linter.all false
namespace Go.Sx
open Go Go.RowKit
def eD : List SV → List Nat
 | [] => []
 | s :: r => bL s.all ++ eD r
theorem CallS.frz {E : Env} {f : Nat} {args args' : List SV} {res : SV} {st : St} {K : St → SV → Prop} (h : FnC E.P f args' res) (he : args.map (dH (aQ st.h (eD args))) = args') (hfree : args'.all bJ = true)
    (k : K ⟨st.t, aQ st.h (eD args) ++ adH res.all⟩ (adS (aQ st.h (eD args)).length res)) : CallS E f args st K := by
 refine ⟨h.enters, fun g V a w vs hr hlen hargs => ?_⟩
 obtain ⟨g', V', hr', hg, hv, _⟩ := dU (eD args) hr
 have := CallS.of_fn (E := E) (st := ⟨st.t, aQ st.h (eD args)⟩) (K := K) h he hfree k
 exact this.2 g' V' a w vs hr' hlen fun i s y h1 h2 => (hargs i s y h1 h2).mono hg hv
theorem uG {V : View} {w : World} {g : List Gh} {cs : List At} {l : List Value} (h : cL g V cs l) (hd : cs.all isD = true) : rL V w cs l [] := by
 refine ⟨List.replicate cs.length [], h.1, by simp, by simp, fun k a y s h1 h2 h3 => ?_⟩
 have ha := List.all_eq_true.1 hd a (List.mem_of_getElem? h1)
 have hc := h.2 k a y h1 h2
 have hs : s = [] := by
  rw [List.getElem?_replicate] at h3
  split at h3
  ·cases h3; rfl
  ·cases h3
 subst hs
 cases a <;> simp [isD] at ha
 exact ⟨rfl, hc⟩
theorem cL.app {V : View} {g : List Gh} {cs cs' : List At} {l l' : List Value} (h : cL g V cs l) (h' : cL g V cs' l') : cL g V (cs ++ cs') (l ++ l') := by
 refine ⟨by simp [h.1, h'.1], fun k a y h1 h2 => ?_⟩
 rw [List.getElem?_append] at h1 h2
 rw [h.1] at h2
 split at h1
 ·rename_i hk; rw [if_pos hk] at h2; exact h.2 k a y h1 h2
 ·rename_i hk; rw [if_neg hk] at h2; exact h'.2 _ a y h1 h2
theorem a5X {V : View} {g : List Gh} : ∀ (cs : List (Bool × List At)) (ys : List Value), ys.length = cs.length → (∀ (k : Nat) (b : Bool) (c : List At) (v : Value), cs[k]? = some (b, c) → ys[k]? = some v → if b = true then ∃ m : List Value, v = .agg m.toArray ∧ cL g V c m else cL g V c [v]) →
    ∃ ls : List (List Value), ls.length = cs.length ∧ cL g V (cs.flatMap (·.2)) ls.flatten ∧ (∀ (k : Nat) (b : Bool) (c : List At) (m : List Value), cs[k]? = some (b, c) → ls[k]? = some m → m.length = c.length) ∧
     ∀ (k : Nat) (b : Bool) (c : List At) (m : List Value) (v : Value), cs[k]? = some (b, c) → ls[k]? = some m → ys[k]? = some v → if b then v = .agg m.toArray else m = [v]
 | [], _, _, _ => ⟨[], rfl, cL.nil g V, fun k b c m h => by simp at h, fun k b c m v h => by simp at h⟩
 | (b, c) :: cs, [], h, _ => by simp at h
 | (b, c) :: cs, v :: ys, h, hk => by
  obtain ⟨ls, e1, e2, e3, e4⟩ := a5X cs ys (by simpa using h) fun k b c v h1 h2 => hk (k + 1) b c v (by simpa using h1) (by simpa using h2)
  have h0 := hk 0 b c v rfl rfl
  obtain ⟨m, hm, hs⟩ : ∃ m : List Value, cL g V c m ∧ (if b then v = .agg m.toArray else m = [v]) := by
   cases b with
   | true => simp only [if_true] at h0; obtain ⟨m, q1, q2⟩ := h0; exact ⟨m, q2, q1⟩
   | false => simp only [Bool.false_eq_true, if_false] at h0; exact ⟨[v], h0, rfl⟩
  refine ⟨m :: ls, by simp [e1], by simpa using hm.app e2, fun k b' c' m' h1 h2 => ?_, fun k b' c' m' v' h1 h2 h3 => ?_⟩
  ·cases k with
   | zero => simp at h1 h2; obtain ⟨_, rfl⟩ := h1; subst h2; exact hm.1
   | succ k => exact e3 k b' c' m' (by simpa using h1) (by simpa using h2)
  ·cases k with
   | zero => simp at h1 h2 h3; obtain ⟨rfl, rfl⟩ := h1; subst h2 h3; exact hs
   | succ k => exact e4 k b' c' m' v' (by simpa using h1) (by simpa using h2) (by simpa using h3)
def a1R (h : List HB) : SV → SV
 | .t l => .t (l.map fun x => (x.1, x.2.map (tY h)))
 | .o a => dH h (.o a)
 | .g cs => dH h (.g cs)
theorem a3p {C : Ctx} {g : List Gh} {V : View} {st : St} {a : Act} {w : World} (hr : Rel C g V st a w) {s : SV} {y : Value} (h : cSV g V s y) : cSV g V (a1R st.h s) y := by
 have key : ∀ {cs : List At} {l : List Value}, cL g V cs l → cL g V (cs.map (tY st.h)) l := fun {cs l} hc => by
  refine ⟨by simp [hc.1], fun k x z h1 h2 => ?_⟩
  rw [List.getElem?_map] at h1
  cases hk : cs[k]? with
  | none => rw [hk] at h1; cases h1
  | some c => rw [hk] at h1; cases h1; exact tZ hr (hc.2 k c z hk h2)
 cases s with
 | o x => exact iJ hr h
 | g cs => exact iJ hr h
 | t l =>
  obtain ⟨ys, h1, h2, h3⟩ := h
  refine ⟨ys, h1, by simp [h2], fun k b cs v hk hv => ?_⟩
  rw [List.getElem?_map] at hk
  cases hl : l[k]? with
  | none => rw [hl] at hk; cases hk
  | some x =>
   rw [hl] at hk
   obtain ⟨b', cs'⟩ := x
   cases hk
   have := h3 k b' cs' v hl hv
   cases b' with
   | true => simp only [if_true] at this ⊢; obtain ⟨m, e, hm⟩ := this; exact ⟨m, e, key hm⟩
   | false => simp only [Bool.false_eq_true, if_false] at this ⊢; exact key this
theorem FnC.pure {P : Program} {f : Nat} {args : List SV} {res res' : SV} (h : FnC P f args res) (ha : args.map (dH []) = args) (hf : args.all bJ = true)
    (hp : a1R (aQ (adH res.all) (bL (adS 0 res).all)) (adS 0 res) = res') (hd : res'.all.all isD = true) : FnC P f args res' := by
 refine ⟨h.enters, fun V w vs htab hm hc => ?_⟩
 have hr : Rel ⟨w, [], V, htab⟩ [] V ⟨[], []⟩ ⟨#[], []⟩ w :=
  ⟨⟨rfl, fun i s y h1 _ => by simp at h1, rfl⟩, ⟨rfl, fun i b x h => by simp at h, fun i b x h => by simp at h, fun i j b b' x x' _ h => by simp at h, fun i b x h => by simp at h, fun i b x h => by simp at h⟩, hm,
   ⟨rfl, rfl, rfl, Nat.le_refl _, fun _ _ _ => rfl⟩, ⟨View.le.refl V, (fun b cs h1 h2 => by have h2' : V b = none := h2; rw [h1] at h2'; cases h2'), (fun b cs h1 h2 => by have h2' : V b = none := h2; rw [h1] at h2'; cases h2')⟩⟩
 have hcall := CallS.of_fn (E := ⟨P, fun _ => .bad, ⟨w, [], V, htab⟩, fun _ => []⟩) (st := ⟨[], []⟩) (K := fun st s => st = ⟨[], adH res.all⟩ ∧ s = adS 0 res) h ha hf ⟨by simp, rfl⟩
 refine (hcall.2 [] V _ w vs hr hc.1 (fun i s y h1 h2 => hc.2 i s y h1 h2)).mono ?_
 rintro e w' ⟨y, g', V', st', s, rfl, hr', hs, rfl, rfl⟩
 obtain ⟨g2, V2, hr2, hg2, hv2, _⟩ := dU (bL (adS 0 res).all) hr'
 have hp2 := a3p hr2 (hs.mono hg2 hv2)
 rw [hp] at hp2
 refine ⟨y, rfl, ⟨V2, [], hr2.vw.le, hr2.mod, fun b cs h1 h2 => ?_, ?_, List.nodup_nil, fun b hb => by cases hb⟩, ⟨hr2.fr.os, hr2.fr.tape, hr2.fr.output, hr2.fr.size, fun k hk => hr2.fr.block k hk (by simp)⟩⟩
 ·refine ⟨?_, hr2.vw.unf b cs h1 h2⟩
  rcases hr2.vw.fresh b cs h1 h2 with h | h
  ·exact h
  ·cases h
 ·cases res' with
  | o x => exact ⟨[y], rfl, uG (cL.cons hp2 (cL.nil g2 V2)) hd⟩
  | g cs =>
   obtain ⟨l, hl, hcl⟩ := hp2
   exact ⟨l, hl, uG hcl hd⟩
  | t cs =>
   obtain ⟨ys, h1, h2, h3⟩ := hp2
   obtain ⟨ls, e1, e2, e3, e4⟩ := a5X cs ys h2 h3
   exact ⟨ls.flatten, ⟨ls, e1, rfl, e3, ys, h1, h2, e4⟩, uG e2 hd⟩
theorem FnC.pu {P : Program} {f : Nat} {args : List SV} {res res' : SV} (h : FnC P f args res) (o : (args.map (dH []) = args ∧ args.all bJ = true) ∧ a1R (aQ (adH res.all) (bL (adS 0 res).all)) (adS 0 res) = res' ∧ res'.all.all isD = true) : FnC P f args res' := h.pure o.1.1 o.1.2 o.2.1 o.2.2
def a8C : SV → SV → Prop
 | .o _, .o _ => True
 | .g _, .g _ => True
 | .t l, .t l' => l.map (fun x => (x.1, x.2.length)) = l'.map (fun x => (x.1, x.2.length))
 | _, _ => False
theorem FnC.re {P : Program} {f : Nat} {args : List SV} {res res' : SV} (ids : List Nat) (h : FnC P f args res) (ha : args.map (dH []) = args) (hf : args.all bJ = true)
    (hp : dN (aQ (adH res.all) ids) (adS 0 res).all res'.all) (hn : (nL (adS 0 res).all res'.all).Nodup) (hk : a8C (adS 0 res) res') : FnC P f args res' := by
 refine ⟨h.enters, fun V w vs htab hm hc => ?_⟩
 have hr : Rel ⟨w, [], V, htab⟩ [] V ⟨[], []⟩ ⟨#[], []⟩ w :=
  ⟨⟨rfl, fun i s y h1 _ => by simp at h1, rfl⟩, ⟨rfl, fun i b x h => by simp at h, fun i b x h => by simp at h, fun i j b b' x x' _ h => by simp at h, fun i b x h => by simp at h, fun i b x h => by simp at h⟩, hm,
   ⟨rfl, rfl, rfl, Nat.le_refl _, fun _ _ _ => rfl⟩, ⟨View.le.refl V, (fun b cs h1 h2 => by have h2' : V b = none := h2; rw [h1] at h2'; cases h2'), (fun b cs h1 h2 => by have h2' : V b = none := h2; rw [h1] at h2'; cases h2')⟩⟩
 have hcall := CallS.of_fn (E := ⟨P, fun _ => .bad, ⟨w, [], V, htab⟩, fun _ => []⟩) (st := ⟨[], []⟩) (K := fun st s => st = ⟨[], adH res.all⟩ ∧ s = adS 0 res) h ha hf ⟨by simp, rfl⟩
 refine (hcall.2 [] V _ w vs hr hc.1 (fun i s y h1 h2 => hc.2 i s y h1 h2)).mono ?_
 rintro e w' ⟨y, g', V', st', s, rfl, hr', hs, rfl, rfl⟩
 obtain ⟨g2, V2, hr2, hg2, hv2, _⟩ := dU ids hr'
 have hs2 := hs.mono hg2 hv2
 clear hs hr' hcall
 obtain ⟨l, hl, hc2⟩ : ∃ l, shapeOf res' l y ∧ cL g2 V2 (adS 0 res).all l := by
  revert hs2 hk
  generalize adS 0 res = s0
  intro hk hs2
  cases s0 with
  | o x => cases res' with
   | o x' => exact ⟨[y], rfl, cL.cons hs2 (cL.nil g2 V2)⟩
   | _ => exact hk.elim
  | g cs => cases res' with
   | g cs' => obtain ⟨l, e1, e2⟩ := hs2; exact ⟨l, e1, e2⟩
   | _ => exact hk.elim
  | t cs => cases res' with
   | t cs' =>
    obtain ⟨ys, h1, h2, h3⟩ := hs2
    obtain ⟨ls, e1, e2, e3, e4⟩ := a5X cs ys h2 h3
    have hk : cs.map (fun x => (x.1, x.2.length)) = cs'.map (fun x => (x.1, x.2.length)) := hk
    have hlen : cs.length = cs'.length := by simpa using congrArg List.length hk
    have hget : ∀ (k : Nat) (b : Bool) (c : List At), cs'[k]? = some (b, c) → ∃ c', cs[k]? = some (b, c') ∧ c'.length = c.length := fun k b c hk' => by
     have := congrArg (fun z => z[k]?) hk
     simp only [List.getElem?_map, hk', Option.map_some] at this
     cases hl : cs[k]? with
     | none => rw [hl] at this; cases this
     | some x =>
      rw [hl] at this
      simp only [Option.map_some, Option.some.injEq, Prod.mk.injEq] at this
      exact ⟨x.2, by rw [← this.1], this.2⟩
    refine ⟨ls.flatten, ⟨ls, e1.trans hlen, rfl, fun k b c m q1 q2 => ?_, ys, h1, h2.trans hlen, fun k b c m v q1 q2 q3 => ?_⟩, e2⟩
    ·obtain ⟨c', z1, z2⟩ := hget k b c q1
     exact (e3 k b c' m z1 q2).trans z2
    ·obtain ⟨c', z1, z2⟩ := hget k b c q1
     exact e4 k b c' m v z1 q2 q3
   | _ => exact hk.elim
 have hq := gH hp
 refine ⟨y, rfl, ⟨V2, (iI g2 (adS 0 res).all res'.all).flatten, hr2.vw.le, hr2.mod, fun b cs h1 h2 => ?_, ⟨l, hl, iI g2 (adS 0 res).all res'.all, hc2.1.trans hq.1, (oZ g2 hq.1).trans hq.1, rfl, fun k x z s e1 e2 e3 => ?_⟩, iB hr2 hp hn, fun b hb => ?_⟩, ⟨hr2.fr.os, hr2.fr.tape, hr2.fr.output, hr2.fr.size, fun k hk => hr2.fr.block k hk (by simp)⟩⟩
 ·refine ⟨?_, hr2.vw.unf b cs h1 h2⟩
  rcases hr2.vw.fresh b cs h1 h2 with h | h
  ·exact h
  ·cases h
 ·have hk' : k < (adS 0 res).all.length := by rw [hq.1]; exact (List.getElem?_eq_some_iff.1 e1).1
  have e0 : (adS 0 res).all[k]? = some ((adS 0 res).all[k]) := List.getElem?_eq_getElem hk'
  rw [pE g2 e0 e1] at e3
  cases e3
  exact xN hr2 (hq.2 k _ x e0 e1) (hc2.2 k _ z e0 e2)
 ·obtain ⟨id, _, x, hb', e1, e2, e3⟩ := pF hr2 hp b hb
  have := hr2.hp.lo id hb' x e1 e2 b e3
  exact ⟨by simpa using this.1, this.2⟩
end Go.Sx
end
section
set_option linter.all false
namespace Go.Sx
open Go Go.RowKit
structure Turned (X : List Nat) (w w' : World) : Prop where
 os : w'.os = w.os
 tape : w'.tape = w.tape
 output : w'.output = w.output
 size : w.heap.size ≤ w'.heap.size
 block : ∀ k, k < w.heap.size → k ∉ X → w'.heap[k]? = w.heap[k]?
def a2w (b : Bool) (l : List Value) : Value := if b then .agg l.toArray else l.headD undef
structure FnM (P : Program) (f : Nat) (b : Bool) (cs outs : List At) (n res : Int) : Prop where
 enters : ∀ as w, (callFunc f as).run P w = .ok (.enter f as) w
 one : b = false → cs.length = 1
 calls : ∀ w l Ps, tabOK w (trs Ps) → oL w cs l Ps → (trs Ps).Nodup → (∀ k ∈ trs Ps, k < w.heap.size) → Calls P f #[a2w b l, .int .i64 n] w fun e w' => e = .returned (.int .i64 res) ∧ Turned (trs Ps) w w' ∧ oL w' outs l Ps
def a5Y (b : Bool) (cs : List At) : SV := if b then .g (adA 0 cs) else match adA 0 cs with
 | [x] => .o x
 | _ => .o .u
def stM (tg : Nat → Option (Value × List Nat × List Value)) (b : Bool) (cs : List At) (n : Int) (nt : Nat) : St := ⟨[a5Y b cs, oi n] ++ List.replicate (nt - 2) (.t []), adG tg 0 cs⟩
def a2x : List HB → List HB → Prop
 | _, [] => True
 | x :: xs, y :: ys => x = y ∧ a2x xs ys
 | [], _ :: _ => False
theorem zO : ∀ {h hs : List HB}, a2x h hs → ∀ (i : Nat) (b : HB), hs[i]? = some b → h[i]? = some b
 | _, [], _, i, b, e => by simp at e
 | x :: xs, y :: ys, h, 0, b, e => by simp at e ⊢; rw [h.1, e]
 | x :: xs, y :: ys, h, i + 1, b, e => by simpa using zO h.2 i b (by simpa using e)
 | [], _ :: _, h, _, _, _ => h.elim
def a8D (E : Env) (rs : List ResultVar) (res : Int) (hs : List HB) : Ex → St → Prop
 | .ret, st => RetOK E st rs (oi res) ∧ a2x st.h hs
 | .normal, st => RetOK E st rs (oi res) ∧ a2x st.h hs
 | .exit _, _ => False
def shp : List At → List At → Prop
 | [], [] => True
 | .d (.v x) :: a, .d (.v y) :: b => x = y ∧ shp a b
 | .w _ s _ :: a, .w _ s' _ :: b => s = s' ∧ shp a b
 | _, _ => False
def pM : List At → List Value → List (List Nat × List Value) → List (Value × List Nat × List Value)
 | .w _ _ _ :: cs, y :: l, p :: Ps => (y, p.1, p.2) :: pM cs l Ps
 | _ :: cs, _ :: l, _ :: Ps => pM cs l Ps
 | _, _, _ => []
theorem oC : ∀ {cs : List At} {l : List Value} {Ps : List (List Nat × List Value)} (pre : List (Value × List Nat × List Value)), rW (fun j => (pre ++ pM cs l Ps)[j]?) pre.length cs l Ps
 | [], _, _, _ => by cases ‹List Value› <;> trivial
 | c :: cs, [], _, _ => by cases c <;> trivial
 | c :: cs, y :: l, [], _ => by cases c <;> trivial
 | c :: cs, y :: l, p :: Ps, pre => by
  have hw : ∀ t s r, c = .w t s r → rW (fun j => (pre ++ pM (c :: cs) (y :: l) (p :: Ps))[j]?) pre.length (c :: cs) (y :: l) (p :: Ps) := by
   rintro t s r rfl
   refine ⟨fun q e => ?_, ?_⟩
   ·have e : (pre ++ pM (At.w t s r :: cs) (y :: l) (p :: Ps))[pre.length]? = some q := e
    rw [List.getElem?_append_right (Nat.le_refl _)] at e
    simp [pM] at e
    exact e.symm
   ·have := oC (cs := cs) (l := l) (Ps := Ps) (pre ++ [(y, p.1, p.2)])
    simpa [pM] using this
  cases c with
  | w t s r => exact hw t s r rfl
  | _ => exact oC (cs := cs) (l := l) (Ps := Ps) pre
theorem xU {C : Ctx} {g : List Gh} {V : View} {h : List HB} {w w0 : World} (hp : Hp C g V h w) : ∀ {cs outs : List At} {l : List Value} {Ps : List (List Nat × List Value)} (pre : List (Value × List Nat × List Value)), oL w0 cs l Ps → shp cs outs →
    (∀ (i : Nat) (b : HB), (adG (fun j => (pre ++ pM cs l Ps)[j]?) pre.length outs)[i]? = some b → h[pre.length + i]? = some b) → oL w outs l Ps
 | [], [], l, Ps, pre, ho, _, _ => ⟨ho.1, ho.2.1, fun k a y p e => by simp at e⟩
 | [], _ :: _, _, _, _, _, hs, _ => by simp [shp] at hs
 | c :: cs, [], l, Ps, _, _, hs, _ => by cases c with
  | d x => cases x <;> simp [shp] at hs
  | _ => simp [shp] at hs
 | c :: cs, o :: outs, [], _, _, ho, _, _ => by have := ho.1; simp at this
 | c :: cs, o :: outs, y :: l, [], _, ho, _, _ => by have := ho.2.1; simp at this
 | c :: cs, o :: outs, y :: l, p :: Ps, pre, ho, hs, hh => by
  have ho' : oL w0 cs l Ps := ⟨by have := ho.1; simpa using this, by have := ho.2.1; simpa using this, fun k a y p e1 e2 e3 => ho.2.2 (k + 1) a y p (by simpa using e1) (by simpa using e2) (by simpa using e3)⟩
  have hy := ho.2.2 0 c y p rfl rfl rfl
  have mk : oAt w o y p → oL w outs l Ps → oL w (o :: outs) (y :: l) (p :: Ps) := fun h1 h2 => ⟨by simp [h2.1], by simp [h2.2.1], fun k a' y' p' e1 e2 e3 => by
   cases k with
   | zero => simp at e1 e2 e3; subst e1; subst e2; subst e3; exact h1
   | succ k => exact h2.2.2 k a' y' p' (by simpa using e1) (by simpa using e2) (by simpa using e3)⟩
  cases c with
  | d x => cases x with
   | v x => cases o with
    | d z => cases z with
     | v z =>
      obtain ⟨rfl, hs'⟩ := hs
      exact mk hy (xU hp pre ho' hs' (by simpa [pM, adG] using hh))
     | sl r => simp [shp] at hs
    | _ => simp [shp] at hs
   | sl r => simp [shp] at hs
  | w t s r => cases o with
   | w t' s' r' =>
    obtain ⟨rfl, hs'⟩ := hs
    have h0 := hh 0 (.own (some (y, p.1, p.2)) s r') (by
     simp only [adG, pM, List.getElem?_cons_zero]
     rw [List.getElem?_append_right (Nat.le_refl _)]
     simp)
    have hg : pre.length < g.length := by rw [hp.glen]; exact (List.getElem?_eq_some_iff.1 (by simpa using h0)).1
    obtain ⟨e1, e2⟩ := hp.hb pre.length _ _ (by simpa using h0) (List.getElem?_eq_getElem hg)
    obtain ⟨q1, q2, q3⟩ := e1 _ _ _ rfl
    rw [q1, q2, q3] at e2
    refine mk e2 (xU hp (pre ++ [(y, p.1, p.2)]) ho' hs' fun i b hb => ?_)
    have := hh (i + 1) b (by
     simp only [adG, pM, List.getElem?_cons_succ]
     simpa using hb)
    simpa [Nat.add_assoc, Nat.add_comm 1] using this
   | _ => simp [shp] at hs
  | _ => simp [shp] at hs
theorem FnM.of_wp {P : Program} {T : Nat → Ty} {eqk : Nat → List Nat} (hT : TyOK P T) {f : Nat} {fn : Func} {c : Code} {rs : List ResultVar} {b : Bool} {cs outs : List At} {n res : Int}
    (hf : P.funcs[f]? = some fn) (hb : fn.body = some c) (hcall : ∀ as w, (callFunc f as).run P w = .ok (.enter f as) w) (hres : fn.results = rs.toArray) (hone : b = false → cs.length = 1) (hsh : shp cs outs)
    (h : ∀ (C : Ctx) (tg : Nat → Option (Value × List Nat × List Value)), WP P C c (aR P C [] (a8D ⟨P, T, C, eqk⟩ rs res (adG tg 0 outs))) (stM tg b cs n fn.ntmps)) : FnM P f b cs outs n res := by
 refine ⟨hcall, hone, fun w l Ps htab hl hnd hlt => ?_⟩
 let C : Ctx := ⟨w, trs Ps, fun _ => none, htab⟩
 refine calls_of_wp hf hb ?_
 have hr0 : Rel C [] (fun _ => none) ⟨[.o .u, oi n] ++ List.replicate (fn.ntmps - 2) (.t []), []⟩ { tmps := #[a2w b l, .int .i64 n] ++ Array.replicate (fn.ntmps - 2) undef, defers := [] } w := by
  refine ⟨⟨by simp; omega, fun i s y h1 h2 => ?_, rfl⟩, ⟨rfl, fun i b x h => by simp at h, fun i b x h => by simp at h, fun i j b b' x x' _ h => by simp at h, fun i b x h => by simp at h, fun i b x h => by simp at h⟩, (fun b cs h => by cases h),
   ⟨rfl, rfl, rfl, Nat.le_refl _, fun _ _ _ => rfl⟩, ⟨View.le.refl _, (fun b cs h => by cases h), (fun b cs h => by cases h)⟩⟩
  match i with
  | 0 => simp at h1; subst h1; trivial
  | 1 =>
   rw [Array.getElem?_append_left (by simp)] at h2
   simp at h1 h2; subst h1; subst h2; exact ⟨[], .v _ rfl⟩
  | i + 2 =>
   rw [List.getElem?_append_right (by simp)] at h1
   rw [Array.getElem?_append_right (by simp)] at h2
   simp [List.getElem?_replicate, Array.getElem?_replicate] at h1 h2
   obtain ⟨_, rfl⟩ := h1
   obtain ⟨_, rfl⟩ := h2
   exact eU _ _
 obtain ⟨g, hr1, hg, hc⟩ := wI (tg := fun j => (pM cs l Ps)[j]?) (j := 0) hr0 hl hnd (fun k hk => ⟨.inr hk, hlt k hk, rfl, fun i hb x e => by simp at e⟩) (oC (cs := cs) (l := l) (Ps := Ps) [])
 have hr : Rel C g (fun _ => none) (stM (fun j => (pM cs l Ps)[j]?) b cs n fn.ntmps) { tmps := #[a2w b l, .int .i64 n] ++ Array.replicate (fn.ntmps - 2) undef, defers := [] } w := by
  refine ⟨⟨by simp [stM]; omega, fun i s y h1 h2 => ?_, rfl⟩, by simpa [stM] using hr1.hp, hr1.mod, hr1.fr, hr1.vw⟩
  match i with
  | 0 =>
   rw [Array.getElem?_append_left (by simp)] at h2
   simp [stM] at h1 h2
   subst h1; subst h2
   unfold a5Y a2w
   cases b with
   | true => simp only [if_true]; exact ⟨l, rfl, by simpa using hc⟩
   | false =>
    have h1 := hone rfl
    have hla : (adA 0 cs).length = 1 := by rw [iZ]; exact h1
    have hll : l.length = 1 := by rw [hl.1]; exact h1
    match he : adA 0 cs, hla, l, hll with
    | [x], _, [y], _ =>
     simp only [Bool.false_eq_true, if_false]
     have hc' : cL g (fun _ => none) (adA 0 cs) [y] := by simpa using hc
     rw [he] at hc'
     exact hc'.2 0 x y rfl rfl
  | i + 1 =>
   have := hr1.sl.slot (i + 1) s y (by simpa [stM] using h1) h2
   exact this
 have hsz : (#[a2w b l, .int .i64 n] : Array Value).size = 2 := rfl
 rw [hsz]
 refine wp_mono (h C _ g _ _ w hr) fun e a' w' q => ?_
 have fin : ∀ (g : List Gh) (V : View) (st : St), Rel C g V st a' w' → RetOK ⟨P, T, C, eqk⟩ st rs (oi res) ∧ a2x st.h (adG (fun j => (pM cs l Ps)[j]?) 0 outs) →
     ∃ y, (results fn a'.tmps).run P w' = .ok y w' ∧ (Ending.returned y = .returned (.int .i64 res) ∧ Turned (trs Ps) w w' ∧ oL w' outs l Ps) := by
  intro g V st hr' hret
  obtain ⟨⟨⟨l0, h1, h2, h3, h4⟩, hone'⟩, hpre⟩ := hret
  obtain ⟨vs, ls, f1, f2, f3, f4, f5⟩ := lW (E := ⟨P, T, C, eqk⟩) hT hr' h1
  have f1' : (rs.mapM (rvM a')).run P w' = .ok vs w' := by
   rw [← f1]
   congr 2
  have hl0 : ∃ x, l0 = [(false, [x])] := by
   simp only [lL, List.map_cons, List.map_nil] at h2
   have hlen0 : l0.length = 1 := by simpa using congrArg List.length h2
   match l0, hlen0 with
   | [(b0, cs0)], _ =>
    simp only [List.map_cons, List.map_nil, List.cons.injEq, Prod.mk.injEq, and_true, List.length_cons, List.length_nil] at h2
    obtain ⟨rfl, h2⟩ := h2
    have h2 : cs0.length = 1 := by simpa using h2
    match cs0, h2 with
    | [x], _ => exact ⟨x, rfl⟩
  obtain ⟨x, rfl⟩ := hl0
  have hx : x = .d (iv res) := by
   simp only [lL, List.flatMap_cons, List.flatMap_nil, List.append_nil, dN] at h3
   cases x with
   | d z => have h3 : z = _ := h3; rw [h3]
   | z => have h3 : (iv res : D) = .sl [] := h3; cases h3
   | s id =>
    simp only [lK] at h3
    split at h3
    ·cases h3
    ·exact h3.elim
   | _ => exact h3.elim
  subst hx
  match vs, ls, f2, f3 with
  | [v], [m], _, _ =>
   have hv := f4 0 false [.d (iv res)] m v rfl rfl rfl
   simp only [Bool.false_eq_true, if_false] at hv
   obtain ⟨rfl, hv2⟩ := hv
   obtain ⟨S, hL⟩ := hv2.2 0 _ v rfl rfl
   cases hL
   refine ⟨_, kG hres f1', rfl, ⟨hr'.fr.os, hr'.fr.tape, hr'.fr.output, hr'.fr.size, hr'.fr.block⟩, ?_⟩
   exact xU hr'.hp [] hl hsh fun i b hb => by simpa using zO hpre i b (by simpa using hb)
 cases e with
 | normal =>
  obtain ⟨g, V', st', hr', hret⟩ := q
  obtain ⟨y, hy, hd⟩ := fin g V' st' hr' hret
  exact ⟨hr'.sl.defers, y, hy, hd⟩
 | ret =>
  obtain ⟨g, V', st', hr', hret⟩ := q
  obtain ⟨y, hy, hd⟩ := fin g V' st' hr' hret
  exact ⟨hr'.sl.defers, y, hy, hd⟩
 | exit id => obtain ⟨g, V', st', hr', q⟩ := q; exact q.elim
 | goto l => exact q.elim
 | panic ch => exact q.elim
 | outgrown => exact q.elim
end Go.Sx
end
section
set_option linter.all false
namespace Go.Sx
open Go Go.RowKit
theorem Rel.turn {C : Ctx} {g : List Gh} {V : View} {st : St} {a : Act} {w w' : World} (hr : Rel C g V st a w) {X : List Nat} (ht : Turned X w w') {h' : List HB} (hlen : h'.length = st.h.length)
    (hX : ∀ n ∈ X, V n = none ∧ (C.w0.heap.size ≤ n ∨ n ∈ C.X))
    (hh : ∀ (i : Nat) (b' : HB) (x : Gh), h'[i]? = some b' → g[i]? = some x → (st.h[i]? = some b' ∧ ∀ n ∈ aH x b', n ∉ X) ∨ (∃ tag sz rows rows', st.h[i]? = some (.own tag sz rows) ∧ b' = .own tag sz rows' ∧ OwnR w' sz rows' x.val x.tr x.hd)) :
    Rel C g V ⟨st.t, h'⟩ a w' := by
 have hold : ∀ (i : Nat) (b' : HB) (x : Gh), h'[i]? = some b' → g[i]? = some x → ∃ b, st.h[i]? = some b ∧ aH x b' = aH x b ∧ aK x b' = aK x b := fun i b' x h1 h2 => by
  rcases hh i b' x h1 h2 with ⟨e, _⟩ | ⟨tag, sz, rows, rows', e, rfl, _⟩
  ·exact ⟨b', e, rfl, rfl⟩
  ·exact ⟨_, e, rfl, rfl⟩
 refine ⟨hr.sl, ⟨by rw [hr.hp.glen, hlen], ?_, ?_, ?_, ?_, ?_⟩, ?_, ?_, ?_⟩
 ·intro i b' x h1 h2
  rcases hh i b' x h1 h2 with ⟨e, hn⟩ | ⟨tag, sz, rows, rows', e, rfl, hO⟩
  ·exact (hr.hp.hb i b' x e h2).mono (GLe.refl g) (View.le.refl V) fun n hn' => ht.block n (hr.hp.lo i b' x e h2 n (aJ hn')).2 (hn n (aJ hn'))
  ·exact ⟨(hr.hp.hb i _ x e h2).1, hO⟩
 ·intro i b' x h1 h2
  obtain ⟨b, e, e1, _⟩ := hold i b' x h1 h2
  rw [e1]; exact hr.hp.nd i b x e h2
 ·intro i j b1 b2 x1 x2 hij h1 h2 h3 h4 n hn
  obtain ⟨b, e, e1, _⟩ := hold i b1 x1 h1 h2
  obtain ⟨c, f, f1, _⟩ := hold j b2 x2 h3 h4
  rw [e1] at hn; rw [f1]
  exact hr.hp.dj i j b c x1 x2 hij e h2 f h4 n hn
 ·intro i b' x h1 h2 n hn
  obtain ⟨b, e, e1, _⟩ := hold i b' x h1 h2
  rw [e1] at hn
  exact ⟨(hr.hp.lo i b x e h2 n hn).1, Nat.lt_of_lt_of_le (hr.hp.lo i b x e h2 n hn).2 ht.size⟩
 ·intro i b' x h1 h2 n hn
  obtain ⟨b, e, _, e2⟩ := hold i b' x h1 h2
  rw [e2] at hn
  exact hr.hp.rt i b x e h2 n hn
 ·intro b cs hb
  obtain ⟨c, ty, fz, e1, e2⟩ := hr.mod b cs hb
  exact ⟨c, ty, fz, by rw [ht.block b (hr.mod.lt hb) fun hx => by rw [(hX b hx).1] at hb; cases hb]; exact e1, e2⟩
 ·exact ⟨ht.os.trans hr.fr.os, ht.tape.trans hr.fr.tape, ht.output.trans hr.fr.output, Nat.le_trans hr.fr.size ht.size, fun k hk hkX => by
   rw [ht.block k (Nat.lt_of_lt_of_le hk hr.fr.size) fun hx => by
    rcases (hX k hx).2 with h | h
    ·omega
    ·exact hkX h]
   exact hr.fr.block k hk hkX⟩
 ·exact hr.vw.move fun b cs hb => ht.block b (hr.mod.lt hb) fun hx => by rw [(hX b hx).1] at hb; cases hb
def bX (h : List HB) : List At → List At → List At → Prop
 | [], [], [] => True
 | .d (.v x) :: as, .d (.v y) :: cs, _ :: outs => x = y ∧ bX h as cs outs
 | .s id :: as, .w _ sz rows :: cs, .w _ sz' _ :: outs => (match bK h id with
  | .own _ sz0 r => sz0 = sz ∧ sz0 = sz' ∧ r = rows
  | _ => False) ∧ vU id (bL as) = false ∧ bX h as cs outs
 | _, _, _ => False
def lZ : List HB → List At → List At → List HB
 | h, .s id :: as, .w _ _ rows' :: outs => match bK h id with
  | .own tag sz _ => lZ (setH h id (.own tag sz rows')) as outs
  | _ => lZ h as outs
 | h, _ :: as, _ :: outs => lZ h as outs
 | h, _, _ => h
theorem jR : ∀ (h : List HB) (as outs : List At), (lZ h as outs).length = h.length
 | h, [], outs => by cases outs <;> rfl
 | h, a :: as, [] => by cases a <;> rfl
 | h, a :: as, o :: outs => by
  cases a with
  | s id => cases o with
   | w t s r =>
    simp only [lZ]
    split
    ·rw [jR, bD, List.length_set]
    ·exact jR h as outs
   | _ => exact jR h as outs
  | _ => exact jR h as outs
theorem a0R {C : Ctx} {g : List Gh} {V : View} {w : World} {h : List HB} (hp : Hp C g V h w) : ∀ {as cs outs : List At} {l : List Value}, bX h as cs outs → cL g V as l →
    ∃ Ps, oL w cs l Ps ∧ (trs Ps).Nodup ∧ (∀ n ∈ trs Ps, ∃ id ∈ bL as, ∃ (x : Gh) (b : HB), h[id]? = some b ∧ g[id]? = some x ∧ n ∈ aH x b ∧ n ∈ aK x b) ∧
     ∀ (k id : Nat), as[k]? = some (.s id) → ∃ (tag : Option (Value × List Nat × List Value)) (sz ty : Nat) (rows rows' : List (List D)) (x : Gh), h[id]? = some (.own tag sz rows) ∧ g[id]? = some x ∧ outs[k]? = some (.w ty sz rows') ∧ l[k]? = some x.val ∧ Ps[k]? = some (x.tr, x.hd)
 | [], [], [], l, _, hc => by
  have := hc.nil_inv; subst this
  exact ⟨[], ⟨rfl, rfl, fun k a y p e => by simp at e⟩, by simp [trs], fun n hn => by simp [trs] at hn, fun k id hid => by simp at hid⟩
 | a :: as, c :: cs, o :: outs, l, hm, hc => by
  obtain ⟨y, l', rfl, hy, hl⟩ := hc.cons_inv
  cases a with
  | d dx => cases dx with
   | v x => cases c with
    | d dz => cases dz with
     | v z =>
      obtain ⟨rfl, hm'⟩ := hm
      obtain ⟨Ps, h1, h2, h3, h4⟩ := a0R hp hm' hl
      obtain ⟨S, hS⟩ := hy
      cases hS with
      | v _ hsc =>
      refine ⟨([], []) :: Ps, ⟨by simp [h1.1], by simp [h1.2.1], fun k a' y' p' e1 e2 e3 => ?_⟩, by simpa [trs] using h2, fun n hn => ?_, fun k id hid => ?_⟩
      ·cases k with
       | zero => simp at e1 e2 e3; subst e1; subst e2; subst e3; exact ⟨rfl, hsc, rfl⟩
       | succ k => exact h1.2.2 k a' y' p' (by simpa using e1) (by simpa using e2) (by simpa using e3)
      ·exact h3 n (by simpa [trs] using hn)
      ·cases k with
       | zero => simp at hid
       | succ k =>
        obtain ⟨tag, sz, ty, rows, rows', gx, q1, q2, q3, q4, q5⟩ := h4 k id (by simpa using hid)
        exact ⟨tag, sz, ty, rows, rows', gx, q1, q2, by simpa using q3, by simpa using q4, by simpa using q5⟩
     | sl r => simp [bX] at hm
    | _ => simp [bX] at hm
   | sl r => simp [bX] at hm
  | s id => cases c with
   | w ty0 sz rows => cases o with
    | w ty1 sz' rows' =>
     obtain ⟨hid, hmem, hm'⟩ := hm
     split at hid
     ·rename_i tag sz0 r e
      obtain ⟨rfl, rfl, rfl⟩ := hid
      have hi := aB e (by simp)
      obtain ⟨gx, hg, hv, _⟩ := hy
      obtain ⟨htag, hO⟩ := hp.hb id _ gx hi hg
      have hnd : gx.tr.Nodup := hp.nd id _ gx hi hg
      obtain ⟨Ps, h1, h2, h3, h4⟩ := a0R hp hm' hl
      have hni : id ∉ bL as := fun hm => by have := (iO id (bL as)).2 hm; rw [hmem] at this; cases this
      refine ⟨(gx.tr, gx.hd) :: Ps, ⟨by simp [h1.1], by simp [h1.2.1], fun k a' y' p' e1 e2 e3 => ?_⟩, ?_, fun n hn => ?_, fun k id' hid' => ?_⟩
      ·cases k with
       | zero => simp at e1 e2 e3; subst e1; subst e2; subst e3; rw [hv]; exact hO
       | succ k => exact h1.2.2 k a' y' p' (by simpa using e1) (by simpa using e2) (by simpa using e3)
      ·simp only [trs, List.map_cons, List.flatten_cons]
       refine List.nodup_append.2 ⟨hnd, h2, fun b hb c hc' => ?_⟩
       rintro rfl
       obtain ⟨id2, hid2, x2, b2, f1, f2, f3, _⟩ := h3 b hc'
       exact hp.dj id id2 _ b2 gx x2 (fun e => hni (e ▸ hid2)) hi hg f1 f2 b hb f3
      ·simp only [trs, List.map_cons, List.flatten_cons, List.mem_append] at hn
       rcases hn with hn | hn
       ·exact ⟨id, by simp [bL], gx, _, hi, hg, hn, hn⟩
       ·obtain ⟨id2, hid2, r⟩ := h3 n hn
        exact ⟨id2, by simp [bL, hid2], r⟩
      ·cases k with
       | zero =>
        simp at hid'
        subst hid'
        exact ⟨tag, _, ty1, _, rows', gx, hi, hg, rfl, by simp [hv], rfl⟩
       | succ k =>
        obtain ⟨tag, sz, ty, rows, rows', gx', q1, q2, q3, q4, q5⟩ := h4 k id' (by simpa using hid')
        exact ⟨tag, sz, ty, rows, rows', gx', q1, q2, by simpa using q3, by simpa using q4, by simpa using q5⟩
     ·exact hid.elim
    | _ => simp [bX] at hm
   | _ => simp [bX] at hm
  | _ => simp [bX] at hm
 | [], _ :: _, _, _, hm, _ => by simp [bX] at hm
 | [], [], _ :: _, _, hm, _ => by simp [bX] at hm
 | a :: as, [], _, _, hm, _ => by cases a with
  | d x => cases x <;> simp [bX] at hm
  | _ => simp [bX] at hm
 | a :: as, c :: cs, [], _, hm, _ => by cases a with
  | d x => cases x with
   | v x => cases c with
    | d z => cases z <;> simp [bX] at hm
    | _ => simp [bX] at hm
   | sl r => simp [bX] at hm
  | s id => cases c <;> simp [bX] at hm
  | _ => simp [bX] at hm
theorem markH_get : ∀ {as cs outs : List At} {h0 h : List HB}, bX h0 as cs outs → (∀ id ∈ bL as, h[id]? = h0[id]?) → ∀ (i : Nat) (b' : HB), (lZ h as outs)[i]? = some b' →
    (h[i]? = some b' ∧ i ∉ bL as) ∨ (i ∈ bL as ∧ ∃ (k ty sz : Nat) (tag : Option (Value × List Nat × List Value)) (rows rows' : List (List D)), as[k]? = some (.s i) ∧ outs[k]? = some (.w ty sz rows') ∧ h[i]? = some (.own tag sz rows) ∧ b' = .own tag sz rows')
 | [], cs, outs, h0, h, hm, _, i, b', hb => by
  have : lZ h [] outs = h := by cases outs <;> rfl
  rw [this] at hb
  exact .inl ⟨hb, by simp [bL]⟩
 | a :: as, [], outs, h0, h, hm, _, i, b', hb => by cases a with
  | d x => cases x <;> simp [bX] at hm
  | _ => simp [bX] at hm
 | a :: as, c :: cs, [], h0, h, hm, _, i, b', hb => by cases a with
  | d x => cases x with
   | v x => cases c with
    | d z => cases z <;> simp [bX] at hm
    | _ => simp [bX] at hm
   | sl r => simp [bX] at hm
  | s id => cases c <;> simp [bX] at hm
  | _ => simp [bX] at hm
 | a :: as, c :: cs, o :: outs, h0, h, hm, heq, i, b', hb => by
  cases a with
  | d dx => cases dx with
   | v x => cases c with
    | d dz => cases dz with
     | v z =>
      have hb' : (lZ h as outs)[i]? = some b' := by cases o <;> exact hb
      rcases markH_get hm.2 heq i b' hb' with h1 | ⟨h1, k, ty, sz, tag, rows, rows', q1, q2, q3, q4⟩
      ·exact .inl h1
      ·exact .inr ⟨h1, k + 1, ty, sz, tag, rows, rows', by simpa using q1, by simpa using q2, q3, q4⟩
     | sl r => simp [bX] at hm
    | _ => simp [bX] at hm
   | sl r => simp [bX] at hm
  | s id => cases c with
   | w ty0 sz rows => cases o with
    | w ty1 sz' rows' =>
     obtain ⟨hid, hmem, hm'⟩ := hm
     split at hid
     ·rename_i tag sz0 r e
      obtain ⟨rfl, rfl, rfl⟩ := hid
      have hi0 := aB e (by simp)
      have hi : h[id]? = some (.own tag sz0 r) := by rw [heq id (by simp [bL])]; exact hi0
      have hnth : bK h id = .own tag sz0 r := by rw [tH, List.getD_eq_getElem?_getD, hi]; rfl
      have hni : id ∉ bL as := fun hm => by have := (iO id (bL as)).2 hm; rw [hmem] at this; cases this
      simp only [lZ, hnth] at hb
      have hlt : id < h.length := (List.getElem?_eq_some_iff.1 hi).1
      rcases markH_get (h := setH h id (.own tag sz0 rows')) hm' (fun j hj => by
       have hne : id ≠ j := fun e => hni (by rw [e]; exact hj)
       rw [bD, List.getElem?_set, if_neg hne]
       exact heq j (by simp [bL, hj])) i b' hb with ⟨h1, h2⟩ | ⟨h1, k, ty, sz, tag', rows1, rows1', q1, q2, q3, q4⟩
      ·rw [bD, List.getElem?_set] at h1
       by_cases hii : id = i
       ·subst hii
        rw [if_pos rfl, if_pos hlt] at h1
        cases h1
        exact .inr ⟨by simp [bL], 0, ty1, sz0, tag, r, rows', rfl, rfl, hi, rfl⟩
       ·rw [if_neg hii] at h1
        exact .inl ⟨h1, fun hm => by
         simp only [bL, List.mem_cons] at hm
         rcases hm with hm | hm
         ·exact hii hm.symm
         ·exact h2 hm⟩
      ·have hne : id ≠ i := fun e => hni (e ▸ h1)
       rw [bD, List.getElem?_set, if_neg hne] at q3
       exact .inr ⟨by simp [bL, h1], k + 1, ty, sz, tag', rows1, rows1', by simpa using q1, by simpa using q2, q3, q4⟩
     ·exact hid.elim
    | _ => simp [bX] at hm
   | _ => simp [bX] at hm
  | _ => simp [bX] at hm
def qX (b : Bool) : SV → Option (List At)
 | .o x => if b then none else some [x]
 | .g cs => if b then some cs else none
 | _ => none
theorem CallS.mark {E : Env} {f : Nat} {b : Bool} {cs outs as : List At} {n res : Int} {a0 : SV} {st : St} {K : St → SV → Prop} (h : FnM E.P f b cs outs n res) (ha : qX b a0 = some as) (hm : bX st.h as cs outs)
    (k : K ⟨st.t, lZ st.h as outs⟩ (oi res)) : CallS E f [a0, oi n] st K := by
 refine ⟨h.enters, fun g V a w vs hr hlen hargs => ?_⟩
 obtain ⟨v0, v1, rfl⟩ : ∃ v0 v1, vs = [v0, v1] := by
  match vs, hlen with
  | [v0, v1], _ => exact ⟨v0, v1, rfl⟩
 have h0 := hargs 0 a0 v0 rfl rfl
 have h1 := hargs 1 (oi n) v1 rfl rfl
 obtain ⟨h1, _⟩ := aG h1
 subst h1
 obtain ⟨l, hl, hc⟩ : ∃ l, v0 = a2w b l ∧ cL g V as l := by
  cases a0 with
  | o x =>
   cases b with
   | true => simp [qX] at ha
   | false => simp [qX] at ha; subst ha; exact ⟨[v0], rfl, cL.cons h0 (cL.nil g V)⟩
  | g cs' =>
   cases b with
   | true => simp [qX] at ha; subst ha; obtain ⟨l, hl, hc⟩ := h0; exact ⟨l, hl, hc⟩
   | false => simp [qX] at ha
  | t l => simp [qX] at ha
 obtain ⟨Ps, p1, p2, p3, p4⟩ := a0R hr.hp hm hc
 subst hl
 refine (h.calls w l Ps (hr.fr.tab fun n hn => by obtain ⟨id, _, x, b', e1, e2, e3, _⟩ := p3 n hn; exact (hr.hp.lo id b' x e1 e2 n e3).1) p1 p2 (fun n hn => by obtain ⟨id, _, x, b', e1, e2, e3, _⟩ := p3 n hn; exact (hr.hp.lo id b' x e1 e2 n e3).2)).mono ?_
 rintro e w' ⟨rfl, ht, ho⟩
 refine ⟨_, g, V, _, _, rfl, hr.turn ht (jR _ _ _) (fun n hn => ?_) (fun i b' x e1 e2 => ?_), aM g V _ rfl, k⟩
 ·obtain ⟨id, _, x, b', e1, e2, e3, e4⟩ := p3 n hn
  exact ⟨hr.hp.rt id b' x e1 e2 n e4, (hr.hp.lo id b' x e1 e2 n e3).1⟩
 ·rcases markH_get hm (fun _ _ => rfl) i b' e1 with ⟨q1, q2⟩ | ⟨q1, _⟩
  ·refine .inl ⟨q1, fun n hn hX => ?_⟩
   obtain ⟨id, hid, x2, b2, f1, f2, f3, _⟩ := p3 n hX
   exact hr.hp.dj i id b' b2 x x2 (fun e => q2 (e ▸ hid)) q1 e2 f1 f2 n hn f3
  ·rcases markH_get hm (fun _ _ => rfl) i b' e1 with ⟨_, q2⟩ | ⟨_, kk, ty, sz, tag, rows, rows', r1, r2, r3, r4⟩
   ·exact (q2 q1).elim
   ·right
    obtain ⟨tag2, sz2, ty2, rows2, rows2', x2, s1, s2, s3, s4, s5⟩ := p4 kk i r1
    rw [e2] at s2; cases s2
    rw [r3] at s1; cases s1
    have s6 := s3
    rw [r2] at s6; cases s6
    exact ⟨tag, sz, rows, rows', r3, r4, ho.2.2 kk _ _ _ s3 s4 s5⟩
def isG : SV → Option Bool
 | .o _ => some false
 | .g _ => some true
 | .t _ => none
theorem Lay.sl_sz {V : View} {rows : List (List D)} {y : Value} {S : List Nat} (h : Lay V (.sl rows) y S) : y = .slice none 0 0 → S = [] := by
 intro e
 cases h with
 | nil => rfl
 | sl => cases e
theorem OwnR.of_lay {w : World} {U : View} {sz : Nat} {rows : List (List D)} {y : Value} {S : List Nat} (h : Lay U (.sl rows) y S) (hm : Mod U w) (hu : ∀ b ∈ S, ∀ cs, U b = some cs → Unf w b) (h0 : ∀ r ∈ rows, r.length = sz) : ∃ hd, OwnR w sz rows y S hd := by
 let U1 : View := fun n => if n ∈ S then U n else none
 have hU1 : ∀ n, n ∈ S → U1 n = U n := fun n hn => by simp [U1, hn]
 have hL : Lay U1 (.sl rows) y S := h.restrict fun b hb cs hcs => ⟨cs, by rw [hU1 b hb]; exact hcs, List.prefix_refl _⟩
 have hm1 : Mod U1 w := fun b cs hb => by
  simp only [U1] at hb
  split at hb
  ·exact hm b cs hb
  ·cases hb
 have hu1 : ∀ b cs, U1 b = some cs → b ∈ S ∧ Unf w b := fun b cs hb => by
  simp only [U1] at hb
  split at hb
  ·exact ⟨‹_›, hu b ‹_› cs hb⟩
  ·cases hb
 have hS := hL.sl_sz
 rcases lay_sl_inv hL with ⟨e, rfl⟩ | ⟨ad, cap, sz', ys, Ss, e, _, e1, e2, e3, e4, e5⟩
 ·exact ⟨[], h0, U1, [], [], hm1, hu1, LayL.nil _, fun k rs q => by simp at q, .inl ⟨e, rfl, hS e⟩⟩
 ·exact ⟨ys, h0, U1, ys, Ss, hm1, hu1, e3, fun k rs _ => rfl, .inr ⟨ad, cap, e, e1, e2, e4, e5⟩⟩
theorem OwnR.part {w : World} {sz : Nat} {rows : List (List D)} {y : Value} {S : List Nat} {hd : List Value} (h : OwnR w sz rows y S hd) (hnd : S.Nodup)
    {i fo sz' : Nat} {sub : List (List D)} (hi : i < rows.length) (hf : (dF rows i)[fo]? = some (.sl sub)) (hs : ∀ r ∈ sub, r.length = sz') :
    ∃ (z : Value) (Sp : List Nat) (hd' : List Value), hd[i * sz + fo]? = some z ∧ (∀ n ∈ Sp, n ∈ S) ∧ Sp.Nodup ∧ OwnR w sz' sub z Sp hd' ∧
     ∀ w' sub', (∀ k ∈ S, k ∉ Sp → w'.heap[k]? = w.heap[k]?) → OwnR w' sz' sub' z Sp hd' → OwnR w' sz (rows.set i ((dF rows i).set fo (.sl sub'))) y S hd := by
 obtain ⟨h0, U, ys, Ss, h1, h2, h3, h4, h5⟩ := h
 rw [uP rows hi] at hf ⊢
 have hflat := dI h0 hi hf
 have hfo : fo < sz := by rw [← h0 _ (List.getElem_mem hi)]; exact (List.getElem?_eq_some_iff.1 hf).1
 have hpl : i * sz + fo < rows.flatten.length := (List.getElem?_eq_some_iff.1 hflat).1
 have hlt : i * sz + fo < ys.length := by rw [h3.1]; exact hpl
 have hlt2 : i * sz + fo < Ss.length := by rw [h3.2.1]; exact hpl
 have hfs : ∀ d, (rows.set i (rows[i].set fo d)).flatten = rows.flatten.set (i * sz + fo) d := fun d => mF d hfo h0 hi
 generalize hp : i * sz + fo = p at *
 have hz : ys[p]? = some ys[p] := List.getElem?_eq_getElem hlt
 have hzS : Ss[p]? = some Ss[p] := List.getElem?_eq_getElem hlt2
 have hLp := h3.2.2 p _ _ _ hflat hz hzS
 rcases h5 with ⟨_, rfl, _⟩ | ⟨a, cap, e, hcap, hmax, hc, hS⟩
 ·simp at hi
 ·have hne : rows.isEmpty = false := by cases rows <;> simp_all
  rw [hne] at hS
  simp only [Bool.false_eq_true, if_false, List.singleton_append] at hS
  have hnd' := hnd
  rw [hS] at hnd'
  have hbn : a.block ∉ Ss.flatten := (List.nodup_cons.1 hnd').1
  have hSsnd := (List.nodup_cons.1 hnd').2
  have hsub : ∀ n ∈ Ss[p], n ∈ S := fun n hn => by
   rw [hS]; exact List.mem_cons_of_mem _ (List.mem_flatten.2 ⟨_, List.mem_of_getElem? hzS, hn⟩)
  have hspl : Ss = Ss.take p ++ Ss[p] :: Ss.drop (p + 1) := by
   rw [← List.drop_eq_getElem_cons hlt2, List.take_append_drop]
  have hfl : Ss.flatten = (Ss.take p).flatten ++ (Ss[p] ++ (Ss.drop (p + 1)).flatten) := by
   have := congrArg List.flatten hspl
   rw [List.flatten_append, List.flatten_cons] at this
   exact this
  have hndp : Ss[p].Nodup := by
   rw [hfl] at hSsnd
   exact (List.nodup_append.1 (List.nodup_append.1 hSsnd).2.1).1
  have hdis : ∀ (k : Nat) (T : List Nat), k ≠ p → Ss[k]? = some T → ∀ n ∈ T, n ∉ Ss[p] := fun k T hk hT n hn hn' => by
   rw [hfl] at hSsnd
   obtain ⟨_, q2, q3⟩ := List.nodup_append.1 hSsnd
   rcases Nat.lt_or_ge k p with hl | hl
   ·exact q3 n (List.mem_flatten.2 ⟨T, List.mem_of_getElem? (by rw [List.getElem?_take, if_pos hl]; exact hT), hn⟩) n (List.mem_append.2 (.inl hn')) rfl
   ·have hl' : p + 1 ≤ k := by omega
    exact (List.nodup_append.1 q2).2.2 n hn' n (List.mem_flatten.2 ⟨T, List.mem_of_getElem? (i := k - (p + 1)) (by rw [List.getElem?_drop, show p + 1 + (k - (p + 1)) = k by omega]; exact hT), hn⟩) rfl
  obtain ⟨hd', hO⟩ := OwnR.of_lay (sz := sz') hLp h1 (fun b _ cs hcs => (h2 b cs hcs).2) hs
  refine ⟨ys[p], Ss[p], hd', (h4 p _ hflat).trans hz, hsub, hndp, hO, fun w' sub' hw' hO' => ?_⟩
  obtain ⟨U2, m1, m2, m3⟩ := xP hO'
  let U' : View := fun n => if n ∈ Ss[p] then U2 n else U n
  have hin : ∀ n, n ∈ Ss[p] → U' n = U2 n := fun n hn => by simp [U', hn]
  have hout : ∀ n, n ∉ Ss[p] → U' n = U n := fun n hn => by simp [U', hn]
  have hbp : a.block ∉ Ss[p] := fun hb => hbn (List.mem_flatten.2 ⟨_, List.mem_of_getElem? hzS, hb⟩)
  refine ⟨fun r hr => ?_, U', ys, Ss, fun n cs hn => ?_, fun n cs hn => ?_, ⟨by rw [hfs, List.length_set]; exact h3.1, by rw [hfs, List.length_set]; exact h3.2.1, fun k d z T q1 q2 q3 => ?_⟩, fun k rs q => ?_, .inr ⟨a, cap, by simpa using e, by simpa using hcap, hmax, fun k z hk => ?_, ?_⟩⟩
  ·rcases List.mem_or_eq_of_mem_set hr with hr | hr
   ·exact h0 r hr
   ·rw [hr, List.length_set]; exact h0 _ (List.getElem_mem hi)
  ·by_cases hb : n ∈ Ss[p]
   ·rw [hin n hb] at hn; exact m1 n cs hn
   ·rw [hout n hb] at hn
    obtain ⟨c, ty, fz, g1, g2⟩ := h1 n cs hn
    exact ⟨c, ty, fz, by rw [hw' n (h2 n cs hn).1 hb]; exact g1, g2⟩
  ·by_cases hb : n ∈ Ss[p]
   ·rw [hin n hb] at hn; exact ⟨hsub n hb, (m2 n cs hn).2⟩
   ·rw [hout n hb] at hn
    obtain ⟨g0, c, ty, g1⟩ := h2 n cs hn
    exact ⟨g0, c, ty, by rw [hw' n g0 hb]; exact g1⟩
  ·rw [hfs, List.getElem?_set] at q1
   by_cases hk : p = k
   ·subst hk
    rw [if_pos rfl, if_pos hpl] at q1
    cases q1
    rw [hz] at q2; cases q2
    rw [hzS] at q3; cases q3
    exact m3.restrict fun b hb cs hcs => ⟨cs, by rw [hin b hb]; exact hcs, List.prefix_refl _⟩
   ·rw [if_neg hk] at q1
    exact (h3.2.2 k d z T q1 q2 q3).restrict fun b hb cs hcs => ⟨cs, by rw [hout b (hdis k T (fun e => hk e.symm) q3 b hb)]; exact hcs, List.prefix_refl _⟩
  ·rw [hfs, List.getElem?_set] at q
   by_cases hk : p = k
   ·subst hk; exact h4 p _ hflat
   ·rw [if_neg hk] at q; exact h4 k rs q
  ·obtain ⟨s1, cs1, s2, s3⟩ := View.cell_some (hc k z hk)
   rw [qZ] at s2
   simp only [View.cell, s1, Option.isSome_none, Bool.false_eq_true, if_false, qZ]
   rw [hout _ hbp, s2]
   exact s3
  ·have hne2 : (rows.set i (rows[i].set fo (.sl sub'))).isEmpty = false := by
    rw [List.isEmpty_eq_false_iff]
    intro hh
    have := congrArg List.length hh
    rw [List.length_set] at this
    simp at this
    subst this
    simp at hi
   rw [hne2]
   simp only [Bool.false_eq_true, if_false, List.singleton_append]
   exact hS
theorem CallS.part {E : Env} {f : Nat} {ty0 ty1 sz' : Nat} {sub0 sub1 : List (List D)} {n res : Int} {id sz i fo : Nat} {st : St} {K : St → SV → Prop} (h : FnM E.P f false [.w ty0 sz' sub0] [.w ty1 sz' sub1] n res)
    {tag : Option (Value × List Nat × List Value)} {rows : List (List D)} {r : List D} (hown : bK st.h id = .own tag sz rows) (hi : i < rows.length) (hf : sub (dF rows i) fo 1 = some [.sl sub0]) (hsp : bI (dF rows i) fo [.sl sub1] = some r) (hs : uni sz' sub0)
    (k : K ⟨st.t, setH st.h id (.own tag sz (rows.set i r))⟩ (oi res)) : CallS E f [.o (.n id sz i fo), oi n] st K := by
 refine ⟨h.enters, fun g V a w vs hr hlen hargs => ?_⟩
 obtain ⟨v0, v1, rfl⟩ : ∃ v0 v1, vs = [v0, v1] := by
  match vs, hlen with
  | [v0, v1], _ => exact ⟨v0, v1, rfl⟩
 have h0 := hargs 0 _ v0 rfl rfl
 have h1 := hargs 1 (oi n) v1 rfl rfl
 obtain ⟨h1, _⟩ := aG h1
 subst h1
 obtain ⟨gh, hg, hv, _⟩ := h0
 have hi' := aB hown (by simp)
 obtain ⟨htag, hO⟩ := hr.hp.hb id _ gh hi' hg
 have hnd : gh.tr.Nodup := hr.hp.nd id _ gh hi' hg
 obtain ⟨hr', _⟩ := oF hsp
 obtain ⟨z, Sp, hd', e1, e2, e3, e4, e5⟩ := hO.part hnd hi (yE hf) hs
 rw [hv] at e1; cases e1
 refine (h.calls w [v0] [(Sp, hd')] (hr.fr.tab fun b hb => (hr.hp.lo id _ gh hi' hg b (e2 b (by simpa [trs] using hb))).1) ⟨rfl, rfl, fun k a y p q1 q2 q3 => ?_⟩ (by simpa [trs] using e3) (fun b hb => (hr.hp.lo id _ gh hi' hg b (e2 b (by simpa [trs] using hb))).2)).mono ?_
 ·cases k with
  | zero => simp at q1 q2 q3; subst q1; subst q2; subst q3; exact e4
  | succ k => simp at q1
 rintro e w' ⟨rfl, ht, ho⟩
 have hO1 := ho.2.2 0 _ v0 (Sp, hd') rfl rfl rfl
 have htX : ∀ n, n ∈ trs [(Sp, hd')] ↔ n ∈ Sp := fun n => by simp [trs]
 have hOw := e5 w' sub1 (fun b hb hn => ht.block b (hr.hp.lo id _ gh hi' hg b hb).2 (fun hx => hn ((htX b).1 hx))) hO1
 rw [← hr'] at hOw
 refine ⟨_, g, V, _, _, rfl, hr.turn ht (by rw [bD, List.length_set]) (fun b hb => ?_) (fun j b' x q1 q2 => ?_), aM g V _ rfl, k⟩
 ·have hb' := e2 b ((htX b).1 hb)
  exact ⟨hr.hp.rt id _ gh hi' hg b hb', (hr.hp.lo id _ gh hi' hg b hb').1⟩
 ·rw [bD, List.getElem?_set] at q1
  by_cases hj : id = j
  ·subst hj
   rw [if_pos rfl, if_pos (List.getElem?_eq_some_iff.1 hi').1] at q1
   cases q1
   rw [hg] at q2; cases q2
   exact .inr ⟨tag, sz, rows, rows.set i r, hi', rfl, hOw⟩
  ·rw [if_neg hj] at q1
   refine .inl ⟨q1, fun b hb hX => ?_⟩
   exact hr.hp.dj j id b' _ x gh (fun e => hj e.symm) q1 q2 hi' hg b hb (e2 b ((htX b).1 hX))
def a5Z (h : List HB) (id sz i fo sz' : Nat) (sub0 : List (List D)) : Prop :=
 match bK h id with
 | .own _ sz0 rows => sz0 = sz ∧ i < rows.length ∧ uni sz' sub0 ∧ (match sub (dF rows i) fo 1 with
  | some [.sl s] => s = sub0
  | _ => False)
 | _ => False
def a7h (h : List HB) (id i fo : Nat) (sub1 : List (List D)) : List HB :=
 match bK h id with
 | .own tag sz rows => match bI (dF rows i) fo [.sl sub1] with
  | some r => setH h id (.own tag sz (rows.set i r))
  | none => h
 | _ => h
end Go.Sx
end
section
set_option linter.all false
namespace Go.Sx
open Go Go.RowKit
structure Gave (V : View) (w : World) (S : List Nat) (ty sz : Nat) (inp : Bool) (rows : List (List D)) (y : Value) (w' : World) : Prop where
 grown : w.grownBy w' S.head?
 out : ∃ S', RowR V w' ty sz rows y S' ∧ S'.Nodup ∧ (∀ b ∈ S', b ∈ S ∨ (w.heap.size ≤ b ∧ b < w'.heap.size)) ∧ (inp = true → S'.head? = S.head?)
structure FnI (P : Program) (f : Nat) (ty sz : Nat) (rows : List (List D)) (args : List SV) (inp : Bool) (rows' : List (List D)) : Prop where
 enters : ∀ as w, (callFunc f as).run P w = .ok (.enter f as) w
 calls : ∀ V w y S vs, Mod V w → RowR V w ty sz rows y S → S.Nodup → (∀ b ∈ S, b < w.heap.size) → jA V args vs →
  Calls P f (y :: vs).toArray w fun e w' => ∃ y', e = .returned (if inp then .tuple #[] else y') ∧ (inp = true → y' = y) ∧ Gave V w S ty sz inp rows' y' w'
section
variable {C : Ctx} {g : List Gh} {V : View} {st : St} {a : Act} {w : World}
theorem a3q {ty sz : Nat} {rows : List (List D)} {x : Gh} (h : HBok g V w x (.row ty sz rows true)) (hrt : ∀ n ∈ aK x (.row ty sz rows true), V n = none) : RowR V w ty sz rows x.val (aH x (.row ty sz rows true)) := by
 obtain ⟨h0, ys, Ss, h1, h2, h3⟩ := h
 refine ⟨h0, ys, Ss, h1, ?_⟩
 rcases h3 with ⟨e1, e2, rfl⟩ | ⟨b, cap, c, e1, e2, e3, e4, e5, e6, e7⟩
 ·refine .inl ⟨e2, rfl, ?_⟩
  have hS : Ss = [] := by have := h1.2.1; simpa using this
  simp [aH, e1, h2 rfl, hS]
 ·exact .inr ⟨b, cap, c, e2, e3, e4, e5, e6, e7, hrt b (by simp [aK, e1]), by simp [aH, e1, h2 rfl]⟩
theorem a3r {ty sz : Nat} {rows : List (List D)} {x : Gh} (h : HBok g V w x (.row ty sz rows true)) : (aH x (.row ty sz rows true)).head? = x.blk := by
 obtain ⟨_, ys, Ss, h1, h2, h3⟩ := h
 rcases h3 with ⟨e1, e2, rfl⟩ | ⟨b, cap, c, e1, _⟩
 ·have hS : Ss = [] := by have := h1.2.1; simpa using this
  simp [aH, e1, h2 rfl, hS]
 ·simp [aH, e1]
theorem a3s {ty sz : Nat} {rows : List (List D)} {y : Value} {S : List Nat} (h : RowR V w ty sz rows y S) (hd : List Value) : ∃ x' : Gh, x'.val = y ∧ x'.hd = hd ∧ x'.blk = S.head? ∧ aH x' (.row ty sz rows true) = S ∧ (∀ n ∈ aK x' (.row ty sz rows true), V n = none) ∧ y.oneCell' = true ∧ ∀ g, HBok g V w x' (.row ty sz rows true) := by
 obtain ⟨h0, ys, Ss, h1, h3⟩ := h
 rcases h3 with ⟨⟨ao, rfl⟩, rfl, rfl⟩ | ⟨b, cap, c, rfl, e3, e4, e5, e6, e7, e8, rfl⟩
 ·refine ⟨⟨none, .slice ao 0 0, [], hd⟩, rfl, rfl, rfl, rfl, fun n hn => by simp [aK] at hn, rfl, fun g => ⟨by simp, [], [], LayL.nil V, fun _ => rfl, .inl ⟨rfl, ⟨ao, rfl⟩, rfl⟩⟩⟩
 ·refine ⟨⟨some b, .slice (some ⟨b, 0, none⟩) rows.length cap, Ss.flatten, hd⟩, rfl, rfl, rfl, by simp [aH], fun n hn => ?_, rfl, fun g => ⟨h0, ys, Ss, h1, fun _ => rfl, .inr ⟨b, cap, c, rfl, rfl, e3, e4, e5, e6, e7⟩⟩⟩
  simp [aK] at hn; subst hn; exact e8
theorem Rel.turnRow (hr : Rel C g V st a w) (id : Nat) {b b' : HB} {x x' : Gh} (h1 : st.h[id]? = some b) (h2 : g[id]? = some x) {w' : World} (e1 : x'.blk = x.blk) (e2 : x'.val = x.val) (e3 : x'.hd = x.hd)
    (hb : ∀ g', HBok g' V w' x' b') (hnd : (aH x' b').Nodup)
    (hfree : ∀ n ∈ aH x' b', n ∈ aH x b ∨ (w.heap.size ≤ n ∧ n < w'.heap.size))
    (hroot : ∀ n ∈ aK x' b', V n = none) (hg : w.grownBy w' x.blk) (hbl : ∀ n, x.blk = some n → n ∈ aK x b) :
    Rel C (g.set id x') V ⟨st.t, st.h.set id b'⟩ a w' := by
 have hle : GLe g (g.set id x') := fun i z hz => by
  by_cases e : id = i
  ·subst e
   rw [h2] at hz; cases hz
   exact ⟨x', by rw [List.getElem?_set]; simp [(List.getElem?_eq_some_iff.1 h2).1], e1, e2, e3⟩
  ·exact ⟨z, by rw [List.getElem?_set, if_neg e]; exact hz, rfl, rfl, rfl⟩
 have key : ∀ (i : Nat) (c : HB) (y : Gh), (st.h.set id b')[i]? = some c → (g.set id x')[i]? = some y → (i ≠ id ∧ st.h[i]? = some c ∧ g[i]? = some y) ∨ (i = id ∧ c = b' ∧ y = x') := by
  intro i c y q1 q2
  rw [List.getElem?_set] at q1 q2
  by_cases e : id = i
  ·subst e
   simp only [if_true] at q1 q2
   split at q1
   ·split at q2
    ·cases q1; cases q2; exact .inr ⟨rfl, rfl, rfl⟩
    ·cases q2
   ·cases q1
  ·rw [if_neg e] at q1 q2
   exact .inl ⟨fun h => e h.symm, q1, q2⟩
 have hX : ∀ n, x.blk = some n → n ∈ aH x b := fun n hn => aJ (hbl n hn)
 refine ⟨hr.sl.mono hle (View.le.refl V), ⟨by simp [hr.hp.glen], ?_, ?_, ?_, ?_, ?_⟩, ?_, ?_, hr.vw.move fun n cs hn => hg.block n (hr.mod.lt hn) fun e => by
     have := hr.hp.rt id b x h1 h2 n (hbl n e.symm)
     rw [hn] at this; cases this⟩
 ·intro i c y q1 q2
  rcases key i c y q1 q2 with ⟨hi, p1, p2⟩ | ⟨_, rfl, rfl⟩
  ·exact (hr.hp.hb i c y p1 p2).mono hle (View.le.refl V) fun n hn => hg.block n (hr.hp.lo i c y p1 p2 n (aJ hn)).2 fun e => hr.hp.dj i id c b y x hi p1 p2 h1 h2 n (aJ hn) (hX n e.symm)
  ·exact hb _
 ·intro i c y q1 q2
  rcases key i c y q1 q2 with ⟨hi, p1, p2⟩ | ⟨_, rfl, rfl⟩
  ·exact hr.hp.nd i c y p1 p2
  ·exact hnd
 ·intro i j c c' y y' hij q1 q2 q3 q4 n hn hn'
  rcases key i c y q1 q2 with ⟨hi, p1, p2⟩ | ⟨rfl, rfl, rfl⟩
  ·rcases key j c' y' q3 q4 with ⟨hj, p3, p4⟩ | ⟨rfl, rfl, rfl⟩
   ·exact hr.hp.dj i j c c' y y' hij p1 p2 p3 p4 n hn hn'
   ·rcases hfree n hn' with h | h
    ·exact hr.hp.dj i j c b y x hi p1 p2 h1 h2 n hn h
    ·have := (hr.hp.lo i c y p1 p2 n hn).2; omega
  ·rcases key j c' y' q3 q4 with ⟨hj, p3, p4⟩ | ⟨rfl, _, _⟩
   ·rcases hfree n hn with h | h
    ·exact hr.hp.dj j i c' b y' x hj p3 p4 h1 h2 n hn' h
    ·have := (hr.hp.lo j c' y' p3 p4 n hn').2; omega
   ·exact hij rfl
 ·intro i c y q1 q2 n hn
  rcases key i c y q1 q2 with ⟨hi, p1, p2⟩ | ⟨_, rfl, rfl⟩
  ·exact ⟨(hr.hp.lo i c y p1 p2 n hn).1, Nat.lt_of_lt_of_le (hr.hp.lo i c y p1 p2 n hn).2 hg.size⟩
  ·rcases hfree n hn with h | h
   ·exact ⟨(hr.hp.lo id b x h1 h2 n h).1, Nat.lt_of_lt_of_le (hr.hp.lo id b x h1 h2 n h).2 hg.size⟩
   ·exact ⟨.inl (Nat.le_trans hr.fr.size h.1), h.2⟩
 ·intro i c y q1 q2 n hn
  rcases key i c y q1 q2 with ⟨hi, p1, p2⟩ | ⟨_, rfl, rfl⟩
  ·exact hr.hp.rt i c y p1 p2 n hn
  ·exact hroot n hn
 ·intro n cs hn
  obtain ⟨c, ty, fz, f1, f2⟩ := hr.mod n cs hn
  exact ⟨c, ty, fz, by rw [hg.block n (Array.getElem?_eq_some_iff.1 f1).1 fun e => by
   have := hr.hp.rt id b x h1 h2 n (hbl n e.symm)
   rw [hn] at this; cases this]; exact f1, f2⟩
 ·exact ⟨hg.os.trans hr.fr.os, hg.tape.trans hr.fr.tape, hg.output.trans hr.fr.output, Nat.le_trans hr.fr.size hg.size, fun n hn hX' => by
   rw [hg.block n (Nat.lt_of_lt_of_le hn hr.fr.size) fun e => by
    rcases (hr.hp.lo id b x h1 h2 n (hX n e.symm)).1 with h | h
    ·omega
    ·exact hX' h]
   exact hr.fr.block n hn hX'⟩
end
theorem CallS.give {E : Env} {f ty sz id : Nat} {rows rows' : List (List D)} {args' rest : List SV} {inp : Bool} {st : St} {K : St → SV → Prop} (h : FnI E.P f ty sz rows args' inp rows')
    (hid : bK (aQ st.h (eD rest)) id = .row ty sz rows true) (he : rest.map (dH (aQ st.h (eD rest))) = args') (hfree : args'.all bJ = true)
    (k : if inp then K ⟨st.t, setH (aQ st.h (eD rest)) id (.row ty sz rows' true)⟩ (.t []) else K ⟨st.t.map (wP id), setH ((aQ st.h (eD rest)).map (sD id)) id (.row ty sz rows' true)⟩ (.o (.s id))) :
    CallS E f (.o (.s id) :: rest) st K := by
 refine ⟨h.enters, fun g V a w vs hr hlen hargs => ?_⟩
 obtain ⟨g1, V1, hr1, hg1, hv1, _⟩ := dU (eD rest) hr
 have hi := aB hid (by simp)
 match vs, hlen, hargs with
 | y :: vs, hlen, hargs =>
  obtain ⟨x, hx, rfl, hone⟩ := (hargs 0 _ y rfl rfl).mono hg1 hv1
  have hok := hr1.hp.hb id _ x hi hx
  have hrow := a3q hok (hr1.hp.rt id _ x hi hx)
  have hhead := a3r hok
  have hc : jA V1 args' vs := by
   subst he
   refine ⟨by simpa using hlen, fun i s y h1 h2 => ?_⟩
   have hs := List.all_eq_true.1 hfree s (List.mem_of_getElem? h1)
   rw [List.getElem?_map] at h1
   cases hk : rest[i]? with
   | none => rw [hk] at h1; cases h1
   | some s0 =>
    rw [hk] at h1
    cases h1
    exact gP (iJ hr1 ((hargs (i + 1) s0 y (by simpa using hk) (by simpa using h2)).mono hg1 hv1)) hs
  refine (h.calls V1 w x.val _ vs hr1.mod hrow (hr1.hp.nd id _ x hi hx) (fun b hb => (hr1.hp.lo id _ x hi hx b hb).2) hc).mono ?_
  rintro e w' ⟨y', rfl, hy', hgrown, S', hrow', hnd', hsub', hhd'⟩
  rw [hhead] at hgrown
  obtain ⟨x', e1, e2, e4, e3, e5, e6, e7⟩ := a3s hrow' x.hd
  have hbl : ∀ n, x.blk = some n → n ∈ aK x (.row ty sz rows true) := fun n hn => by simp [aK, hn]
  cases inp with
  | false =>
   simp only [Bool.false_eq_true, if_false] at k ⊢
   refine ⟨_, g1.set id x', V1, _, _, rfl, hr1.renew id hi hx (e7 _) (by rw [e3]; exact hnd') (fun n hn => ?_) e5 hgrown hbl, ?_, by rw [bD] at k; exact k⟩
   ·rw [e3] at hn
    rcases hsub' n hn with h' | h'
    ·exact ⟨.inl h', (hr1.hp.lo id _ x hi hx n h').1, Nat.lt_of_lt_of_le (hr1.hp.lo id _ x hi hx n h').2 hgrown.size⟩
    ·exact ⟨.inr (.inl h'.1), .inl (Nat.le_trans hr1.fr.size h'.1), h'.2⟩
   ·exact ⟨x', by rw [List.getElem?_set]; simp [(List.getElem?_eq_some_iff.1 hx).1], e1.symm, e6⟩
  | true =>
   simp only [if_true] at k ⊢
   refine ⟨_, g1.set id x', V1, _, _, rfl, hr1.turnRow id hi hx (by rw [e4, hhd' rfl, hhead]) (by rw [e1, hy' rfl]) e2 e7 (by rw [e3]; exact hnd') (fun n hn => ?_) e5 hgrown hbl, ?_, by rw [bD] at k; exact k⟩
   ·rw [e3] at hn
    exact hsub' n hn
   ·exact ⟨[], rfl, rfl, fun k b cs v h => by simp at h⟩
end Go.Sx
end
section
set_option linter.all false
namespace Go.Sx
open Go Go.RowKit
structure FnJ (P : Program) (f ty sz : Nat) (rows : List (List D)) (i : Int) (rows2 rows' : List (List D)) : Prop where
 enters : ∀ as w, (callFunc f as).run P w = .ok (.enter f as) w
 calls : ∀ V w y S y2 S2, Mod V w → RowR V w ty sz rows y S → RowR V w ty sz rows2 y2 S2 → (S ++ S2).Nodup → (∀ b ∈ S ++ S2, b < w.heap.size) →
  Calls P f #[y, .int .i64 i, y2] w fun e w' => ∃ y', e = .returned y' ∧ w.grownBy w' S.head? ∧ ∃ S', RowR V w' ty sz rows' y' S' ∧ S'.Nodup ∧ ∀ b ∈ S', b ∈ S ∨ b ∈ S2 ∨ (w.heap.size ≤ b ∧ b < w'.heap.size)
end Go.Sx
end
section
set_option linter.all false
namespace Go.Sx
open Go Go.RowKit
def a9r : Operand → Option Nat
 | .tmp t => some t
 | _ => none
def iM : List Operand → List Nat
 | [] => []
 | .tmp t :: r => t :: iM r
 | _ :: r => iM r
theorem kI {d : Nat} : ∀ {l : List Operand}, d ∈ iM l ↔ .tmp d ∈ l
 | [] => by simp [iM]
 | x :: r => by
  cases x with
  | tmp t =>
   simp only [iM, List.mem_cons, kI (l := r)]
   constructor
   ·rintro (rfl | h)
    ·exact .inl rfl
    ·exact .inr h
   ·rintro (h | h)
    ·cases h; exact .inl rfl
    ·exact .inr h
  | _ => simp [iM, kI (l := r)]
def opL : Op → List Operand
 | .move x | .assign x | .load _ x | .unOp _ _ x | .convert _ _ x | .fieldAddr _ x _ | .field _ x _ | .extract x _ | .nilCheck x => [x]
 | .pick c a b => [c, a, b]
 | .binOp _ _ a v _ | .indexAddr _ a v | .index _ a v | .store _ a v => [a, v]
 | .buildSlice _ _ ps | .build _ ps => ps.toList.map (·.2)
 | .slice _ x lo hi none => x :: (lo.toList ++ hi.toList)
 | .alloc _ => []
 | .call c => match c.callee with
  | .value f => f :: c.args.toList
  | .builtin _ => c.args.toList
  | _ => c.operands.toList
 | op => op.operands.toList
theorem a0S (op : Op) : opL op = op.operands.toList := by
 unfold opL Op.operands
 split <;> first
  | rfl
  | (rename_i c; unfold Call.operands; cases hc : c.callee <;> simp [hc, Call.operands])
  | simp
theorem aP {listed : Array Bool} (i : Nat) : (listed.setIfInBounds i true).getD i true = true := by
 rcases Nat.lt_or_ge i listed.size with h | h
 ·simp [h]
 ·simp [Array.getElem?_eq_none h]
theorem fD {l : List SV} {d : Nat} (h : d < l.length) : l[d]? = some (nth l d) := by
 rw [kK, List.getD_eq_getElem?_getD, List.getElem?_eq_getElem h]; rfl
theorem zP {l : List SV} {d : Nat} (h : l.length ≤ d) : nth l d = .o .u := by
 rw [kK, List.getD_eq_getElem?_getD, List.getElem?_eq_none h]; rfl
theorem tC (st : St) (d : Option Nat) (s : SV) : (st.put d s).t.length = st.t.length := by
 cases d <;> simp [St.put, jB]
theorem toA {α : Type} {l : List α} {i : Nat} {x : α} (h : l[i]? = some x) : l.toArray[i]? = some x := by simpa using h
def mD (o : Oper) : Bool := match o.op with
 | .store .. => true
 | _ => false
end Go.Sx
end
section
set_option linter.all false
namespace Go.Sx
open Go Go.RowKit
structure vcRun (E : Env) (all l : List Oper) (st : St) (K : St → Prop) (t : Tie (all, l, K)) : Prop where
 out : jN E all l st K
def uH (E : Env) (all : List Oper) (o : Oper) (st : St) (k : St → Prop) (_ : Tie k) : Prop :=
 match o.guard with
 | none => bC E o.op st fun st' s => k (st'.put o.dst s)
 | some (j, b) => bW (iY all j st) b (bC E o.op st fun st' s => k (st'.put o.dst s)) (k (st.put o.dst (.t []))) ⟨⟩ ⟨⟩
theorem a3t {E : Env} {all r : List Oper} {o : Oper} {st : St} {K : St → Prop} (h : uH E all o st (fun st' => vcRun E all r st' K ⟨⟩) ⟨⟩) : vcRun E all (o :: r) st K ⟨⟩ := by
 have e : (fun st' => vcRun E all r st' K ⟨⟩) = (fun st' => jN E all r st' K) := funext fun s => propext ⟨fun h => h.out, fun h => ⟨h⟩⟩
 rw [e] at h
 unfold uH at h
 refine ⟨?_⟩
 unfold jN
 cases hg : o.guard with
 | none => rw [hg] at h; exact h
 | some jb => rw [hg] at h; exact h
theorem a4M {E : Env} {all : List Oper} {st : St} {K : St → Prop} (h : K st) : vcRun E all [] st K ⟨⟩ := ⟨h⟩
structure vcDRun (E : Env) (all l : List Oper) (st : St) (K : St → Prop) (t : Tie (all, l, K)) : Prop where
 out : sK E all l st K
def xV (E : Env) (all : List Oper) (o : Oper) (st : St) (k : St → Prop) (_ : Tie k) : Prop := sop E all o st k
theorem a2y {E : Env} {all r : List Oper} {o : Oper} {st : St} {K : St → Prop} (h : xV E all o st (fun st' => vcDRun E all r st' K ⟨⟩) ⟨⟩) : vcDRun E all (o :: r) st K ⟨⟩ := by
 have e : (fun st' => vcDRun E all r st' K ⟨⟩) = (fun st' => sK E all r st' K) := funext fun s => propext ⟨fun h => h.out, fun h => ⟨h⟩⟩
 rw [e] at h
 exact ⟨h⟩
theorem a3u {E : Env} {all : List Oper} {st : St} {K : St → Prop} (h : K st) : vcDRun E all [] st K ⟨⟩ := ⟨h⟩
theorem a6a {α : Type} (l : List α) : (l.all fun _ => true) = true := by simp
attribute [go_sem] iL lY Nat.reduceLeDiff Nat.le_refl bndR lX Option.toList_some Option.toList_none uH xV iM opL mD a6a Nat.reduceMod Nat.reduceDiv Nat.reduceMul Bool.and_self Bool.and_false Bool.false_and
theorem a4N (sz : Nat) : uni sz [] := fun _ h => by cases h
theorem a3v (sz : Nat) (r : List D) (l : List (List D)) : uni sz (r :: l) ↔ r.length = sz ∧ uni sz l := by simp [uni]
theorem a0T (sz : Nat) (l l' : List (List D)) : uni sz (l ++ l') ↔ uni sz l ∧ uni sz l' := by simp only [uni, List.mem_append]; exact ⟨fun h => ⟨fun r hr => h r (.inl hr), fun r hr => h r (.inr hr)⟩, fun h r hr => hr.elim (h.1 r) (h.2 r)⟩
theorem a4O {α : Type} (sz : Nat) (f : α → List D) (l : List α) : uni sz (l.map f) ↔ ∀ x ∈ l, (f x).length = sz := by simp [uni]
theorem a2z : iR [] = true := rfl
theorem a0U (r : List D) (l : List (List D)) : iR (r :: l) = (r.all isV && iR l) := rfl
theorem xW (l l' : List (List D)) : iR (l ++ l') = (iR l && iR l') := by simp [iR]
theorem a2A {α : Type} (f : α → List D) (l : List α) : iR (l.map f) = l.all (fun x => (f x).all isV) := by simp [iR, List.all_map, Function.comp_def]
attribute [go_sem] a4N a3v a0T a4O a2z a0U xW a2A
theorem a3w {α : Type} (f : α → List D) (l : List α) (k : Nat) (h : k < l.length) : dF (l.map f) k = f l[k] := by
 simp [dF, List.getD_eq_getElem?_getD, h]
def a1S {α : Type} (enc : α → List D) (z : List D) (l : List α) (k : Nat) : List (List D) := (l.take k).map enc ++ List.replicate (l.length - k) z
theorem xX {α : Type} (enc : α → List D) (z : List D) (l : List α) (k : Nat) : (a1S enc z l k).length = l.length := by
 simp [a1S]; omega
theorem a0V {α : Type} (enc : α → List D) (z : List D) (l : List α) (k : Nat) (h : k < l.length) : dF (a1S enc z l k) k = z := by
 have h1 : ((l.take k).map enc).length = k := by simp; omega
 simp only [dF, a1S, List.getD_eq_getElem?_getD]
 rw [List.getElem?_append_right (by omega), h1]
 have h2 : 0 < l.length - k := by omega
 simp [List.getElem?_replicate, h2]
attribute [go_sem] xX a0V
@[congr] theorem a6b {P : Program} {C : Ctx} {ks : List Kn} {F : Ex → St → Prop} {e : Ex} {st st' : St} (h : st = st') : aR P C ks F e st = aR P C ks F e st' := by subst h; rfl
@[congr] theorem a7i {P : Program} {C : Ctx} {c : Code} {F : Ex → St → Prop} {st st' : St} (h : st = st') : WP P C c F st = WP P C c F st' := by subst h; rfl
theorem a0W (y n : Prop) (a : Tie y) (b : Tie n) : bW (.o (.d (.v (.bool true)))) true y n a b = y := by simp [bW]
theorem a0X (y n : Prop) (a : Tie y) (b : Tie n) : bW (.o (.d (.v (.bool true)))) false y n a b = n := by simp [bW]
theorem a0Y (y n : Prop) (a : Tie y) (b : Tie n) : bW (.o (.d (.v (.bool false)))) true y n a b = n := by simp [bW]
theorem a0Z (y n : Prop) (a : Tie y) (b : Tie n) : bW (.o (.d (.v (.bool false)))) false y n a b = y := by simp [bW]
theorem a2B (b : Bool) (y n : Prop) (a : Tie y) (c : Tie n) : bW (.t []) b y n a c = n := by simp [bW]
theorem a3x (y n : Prop) (a : Tie y) (b : Tie n) : kL (.o (.d (.v (.bool true)))) y n a b = y := by simp [kL]
theorem a3y (y n : Prop) (a : Tie y) (b : Tie n) : kL (.o (.d (.v (.bool false)))) y n a b = n := by simp [kL]
attribute [go_sem] a0W a0X a0Y a0Z a2B a3x a3y
theorem a1T : ∀ l : List Nat, l.Nodup ↔ jK l = true
 | [] => by simp [jK]
 | x :: l => by
  rw [List.nodup_cons, a1T l, ← iO]
  simp [jK]
attribute [go_sem] Bool.or_false Bool.false_or Bool.or_true Bool.true_or oK jS jJ yD Nat.reduceBNe Array.toList_empty a1T
theorem a2C (s : ByteArray) (k : Nat) : 0 ≤ fZ s k ∧ fZ s k ≤ 255 := by
 unfold fZ
 have := (s.data.toList.getD k 0).toNat_lt
 omega
theorem a7j (l : List UInt8) : (ByteArray.mk l.toArray).size = l.length := rfl
attribute [go_sem] Int.reduceEq Int.reduceLT Int.reduceLE Int.reduceAdd Int.reduceSub Int.reduceMul Int.reduceNeg Int.reduceToNat decide_false List.size_toArray Nat.reducePow a7j ByteArray.size_append eD true_implies false_implies implies_true Bool.true_eq_false maxLen decide_true isD sop vcD dsO xO fgt mds mhs wH List.toList_toArray bL aQ dR nN jT vU jK isV fK a2J gB lC wP sD a1h jU a1i gJ kR zX a4X a1j oM kS
attribute [go_sem] nA bC iY fJ xM oI jC eT kM fO kN zW kP a3I a2I wO a3H a1g oJ bnd jD jV gI uM uN kQ pW eP
 ev tJ nth a1d bK setH nthP sub bI St.put St.push sM SV.cells gN noU At.isU Ty.agg a1f eqA eqV kZ fV inR a3w
 retVs a3l lL dN lK nL dP dH tY adS adA adH adT SV.all bJ zI leT leH St.le pV swL swG swS swA swB swN List.getElem?_cons_zero List.getElem?_cons_succ List.set_cons_zero List.set_cons_succ St.okB SV.below At.below HB.below
 List.length_cons List.length_nil List.length_map List.nil_append List.cons_append List.append_nil List.map_cons List.map_nil List.drop_succ_cons List.drop_zero List.flatMap_cons List.flatMap_nil List.all_cons List.all_nil
 List.replicate_succ List.replicate_zero Option.map_some Option.map_none Option.bind_some Option.bind_none Option.some.injEq
 Nat.reduceAdd Nat.reduceSub Nat.reduceEqDiff Nat.reduceBEq Nat.reduceLT Nat.zero_add Nat.add_zero Int.toNat_natCast
 ne_eq not_false_eq_true true_and and_true reduceCtorEq ite_true ite_false Bool.and_true Bool.true_and Bool.not_true Bool.not_false Bool.false_eq_true reduceIte if_true if_false beq_self_eq_true
def mkL {α : Type} (mk : α → Int → α) (cn : α → Nat) : List α → Int → List α
 | [], _ => []
 | x :: l, k => mk x k :: mkL mk cn l (k + cn x)
def nM {α : Type} (cn : α → Nat) : List α → Nat
 | [] => 0
 | x :: l => cn x + nM cn l
theorem iN {α : Type} (mk : α → Int → α) (cn : α → Nat) : ∀ (l : List α) (k : Int), (mkL mk cn l k).length = l.length
 | [], _ => rfl
 | x :: l, k => by simp [mkL, iN mk cn l]
theorem a1U {α : Type} (mk : α → Int → α) (cn : α → Nat) : ∀ (l : List α) (k : Int) (j : Nat) (h : j < (mkL mk cn l k).length), (mkL mk cn l k)[j] = mk (l[j]'(by rw [iN] at h; exact h)) (k + (nM cn (l.take j) : Nat))
 | [], _, _, h => by simp [mkL] at h
 | x :: l, k, 0, h => by simp [mkL, nM]
 | x :: l, k, j + 1, h => by
  simp only [mkL, List.getElem_cons_succ, List.take_succ_cons, nM]
  rw [a1U mk cn l]
  congr 1
  omega
def a4P {α : Type} (enc : α → List D) (mk : α → Int → α) (cn : α → Nat) (l : List α) (k : Int) (j : Nat) : List (List D) := ((mkL mk cn l k).take j).map enc ++ (l.drop j).map enc
theorem zQ {α : Type} (enc : α → List D) (mk : α → Int → α) (cn : α → Nat) (l : List α) (k : Int) (j : Nat) : (a4P enc mk cn l k j).length = l.length := by
 simp [a4P, iN]; omega
theorem a2D {α : Type} (enc : α → List D) (mk : α → Int → α) (cn : α → Nat) (l : List α) (k : Int) (j : Nat) (h : j < l.length) : dF (a4P enc mk cn l k j) j = enc l[j] := by
 have h1 : (((mkL mk cn l k).take j).map enc).length = j := by simp [iN]; omega
 simp only [dF, a4P, List.getD_eq_getElem?_getD]
 rw [List.getElem?_append_right (by omega), h1]
 simp [h]
theorem a3z (rows : List (List D)) (j : Nat) (r : List D) (h : j < rows.length) : dF (rows.set j r) j = r := by
 simp [dF, List.getD_eq_getElem?_getD, h]
attribute [go_sem] a1R List.flatten_cons List.flatten_nil zQ a2D a3z iN a1U List.length_set List.set_set cO zK jQ adG bX lZ isG shp a2x stM a5Y a5Z a7h
end Go.Sx
end
end
