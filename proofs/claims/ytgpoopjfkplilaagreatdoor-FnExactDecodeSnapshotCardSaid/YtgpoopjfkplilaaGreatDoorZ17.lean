/- Joined texts. -/
import Derived.Test.YtgpoopjfkplilaaGreatDoorZ16
import Derived.Test.YtgpoopjfkplilaaGreatDoorZ06
set_option linter.all false
section
namespace Go.Sx
open Go Go.RowKit
def a8j : List Gh → List HB → List Nat
 | x :: g, b :: h => aV x b ++ a8j g h
 | _, _ => []
theorem zD : ∀ {g : List Gh} {h : List HB} {n : Nat}, n ∈ a8j g h ↔ ∃ (i : Nat) (b : HB) (x : Gh), h[i]? = some b ∧ g[i]? = some x ∧ n ∈ aV x b
 | [], h, n => by simp [a8j]
 | x :: g, [], n => by simp [a8j]
 | x :: g, b :: h, n => by
  simp only [a8j, List.mem_append]
  rw [zD (g := g) (h := h)]
  constructor
  ·rintro (h1 | ⟨i, b', x', h1, h2, h3⟩)
   ·exact ⟨0, b, x, rfl, rfl, h1⟩
   ·exact ⟨i + 1, b', x', h1, h2, h3⟩
  ·rintro ⟨i, b', x', h1, h2, h3⟩
   cases i with
   | zero => simp at h1 h2; subst h1; subst h2; exact .inl h3
   | succ i => exact .inr ⟨i, b', x', by simpa using h1, by simpa using h2, h3⟩
def pzH (pz : Bool) (b : Nat) : List HB := if pz then [.isv 0 (.pointer (some ⟨b, 0, none⟩))] else []
def b5p (pz : Bool) (g g' : List Gh) : Prop := pz = true → ∀ x, g[0]? = some x → ∃ x', g'[0]? = some x' ∧ x'.blk = x.blk
structure FnZ (P : Program) (f : Nat) (pz : Bool) (hs : List HB) (args : List SV) {α : Type} (Q : α → Prop) (hs' : α → List HB) (res : α → SV) : Prop where
 enters : ∀ aS w, (callFunc f aS).run P w = .ok (.enter f aS) w
 len : ∀ a, (hs' a).length = hs.length
 calls : ∀ (C : Ctx) (g : List Gh) (vs : List Value), C.X = a8j g hs → Hp C g C.V0 hs C.w0 → Mod C.V0 C.w0 → (∀ b cs, C.V0 b = some cs → b ∈ C.X → Unf C.w0 b) → vs.length = args.length → (∀ (k : Nat) (s : SV) (y : Value), args[k]? = some s → vs[k]? = some y → cSV g C.V0 s y) →
  Calls P f vs.toArray C.w0 fun e w' => ∃ y a g' V', e = .returned y ∧ Q a ∧ Hp C g' V' (hs' a) w' ∧ Mod V' w' ∧ Fr C w' ∧ Vw C V' w' ∧ cSV g' V' (res a) y ∧ b5p pz g g'
def stZ (pz : Bool) (b : Nat) (hs : List HB) (args : List SV) (n : Nat) : St := ⟨args ++ List.replicate (n - args.length) (.t []), hs ++ pzH pz b⟩
def b5q (E : Env) (rs : List ResultVar) (pz : Bool) (b n : Nat) {α : Type} (Q : α → Prop) (hs' : α → List HB) (res : α → SV) : Ex → St → Prop
 | .exit _, _ => False
 | _, st => ∃ st' a, Sees E.C st st' ∧ retVs E st' rs = some (resL (res a)) ∧ aM (res a) ∧ Q a ∧ leH st'.h (hs' a ++ pzH pz b) ∧ (res a).below n = true ∧ (hs' a).all (·.below n) = true
theorem aQ {E : Env} {rs : List ResultVar} {pz : Bool} {b n : Nat} {α : Type} {Q : α → Prop} {hs' : α → List HB} {res : α → SV} {st : St} (a : α) (hq : Q a) (h1 : retVs E st rs = some (resL (res a))) (h2 : aM (res a)) (h3 : leH st.h (hs' a ++ pzH pz b)) (h4 : (res a).below n = true) (h5 : (hs' a).all (·.below n) = true) : b5q E rs pz b n Q hs' res .ret st := ⟨st, a, Sees.refl _ _, h1, h2, hq, h3, h4, h5⟩
theorem Hp.take {C : Ctx} {g : List Gh} {V : View} {h : List HB} {w : World} (k : Hp C g V h w) (n : Nat) (h' : List HB) (he : ∀ (i : Nat) (b : HB), h'[i]? = some b → h[i]? = some b) (hl : h'.length = n) (hn : n ≤ h.length) (hb : h'.all (·.below n) = true) : Hp C (g.take n) V h' w := by
 have kg : ∀ (i : Nat) (x : Gh), (g.take n)[i]? = some x → g[i]? = some x := fun i x h => by
  rw [List.getElem?_take] at h; split at h <;> simp_all
 refine ⟨by simp [k.glen, hl]; omega, ?_, ?_, ?_, ?_, ?_⟩
 ·intro i b x h1 h2
  have := k.hb i b x (he i b h1) (kg i x h2)
  have hbb := List.all_eq_true.1 hb _ (List.mem_of_getElem? h1)
  cases b with
  | box ty cs => obtain ⟨b, l, h1', h2', h3'⟩ := this; exact ⟨b, l, h1', h2', h3'.cut hbb⟩
  | isv id v =>
   obtain ⟨y, k1, k2⟩ := this
   have hid : id < n := by simpa [HB.below] using hbb
   exact ⟨y, by rw [List.getElem?_take, if_pos hid]; exact k1, k2⟩
  | pin b ty ds => exact this
  | row ty sz rows lin => exact this
  | frz rows lin => exact this
  | gone => trivial
  | own tag sz rows => exact this
  | pool ty sz items => exact this
 ·intro i b x h1 h2
  exact k.nd i b x (he i b h1) (kg i x h2)
 ·intro i j b b' x x' hij h1 h2 h3 h4
  exact k.dj i j b b' x x' hij (he i b h1) (kg i x h2) (he j b' h3) (kg j x' h4)
 ·intro i b x h1 h2
  exact k.lo i b x (he i b h1) (kg i x h2)
 ·intro i b x h1 h2
  exact k.rt i b x (he i b h1) (kg i x h2)
theorem FnZ.of_wp {P : Program} {T : Nat → Ty} {eqk : Nat → List Nat} (hT : TyOK P T) {f : Nat} {fn : Func} {c : Code} {rs : List ResultVar} {pz : Bool} {hs : List HB} {args : List SV} {α : Type} {Q : α → Prop} {hs' : α → List HB} {res : α → SV}
    (hf : P.funcs[f]? = some fn) (hb : fn.body = some c) (hcall : ∀ aS w, (callFunc f aS).run P w = .ok (.enter f aS) w) (hres : fn.results = rs.toArray)
    (hlen : ∀ a, (hs' a).length = hs.length) (hbox : pz = true → ∃ ty cs, hs[0]? = some (.box ty cs))
    (h : ∀ (C : Ctx) (b : Nat), WP P C c (bP P C [] (b5q ⟨P, T, C, eqk⟩ rs pz b hs.length Q hs' res)) (stZ pz b hs args fn.ntmps)) : FnZ P f pz hs args Q hs' res := by
 refine ⟨hcall, hlen, fun C g vs hX hhp hmod hunf hvl hva => ?_⟩
 refine calls_of_wp hf hb ?_
 let xi : Gh := ⟨none, undef, [], []⟩
 have hgl := hhp.glen
 obtain ⟨b0, hb0⟩ : ∃ b0 : Nat, pz = true → ∃ x, g[0]? = some x ∧ x.blk = some b0 := by
  cases pz with
  | false => exact ⟨0, fun h => by cases h⟩
  | true =>
   obtain ⟨ty, cs, e⟩ := hbox rfl
   have hlt : 0 < g.length := by rw [hgl]; exact (List.getElem?_eq_some_iff.1 e).1
   have hx : g[0]? = some g[0] := List.getElem?_eq_getElem hlt
   obtain ⟨b, l, e1, _⟩ := hhp.hb 0 _ _ e hx
   exact ⟨b, fun _ => ⟨_, hx, e1⟩⟩
 have hpz : Hp C (g ++ (if pz then [xi] else [])) C.V0 (hs ++ pzH pz b0) C.w0 := by
  cases pz with
  | false => simpa [pzH] using hhp
  | true =>
   obtain ⟨x, e1, e2⟩ := hb0 rfl
   simp only [pzH, if_true]
   refine hhp.push (b := .isv 0 (.pointer (some ⟨b0, 0, none⟩))) (x := xi) ⟨x, ?_, e2⟩ ?_ ?_ ?_ ?_
   ·rw [List.getElem?_append_left (List.getElem?_eq_some_iff.1 e1).1]; exact e1
   ·simp [aV]
   ·intro n hn; simp [aV] at hn
   ·intro i b' x' _ _ n _ hm; simp [aV] at hm
   ·intro n hn; simp [aW] at hn
 have hr : Rel C (g ++ (if pz then [xi] else [])) C.V0 (stZ pz b0 hs args fn.ntmps) { tmps := vs.toArray ++ Array.replicate (fn.ntmps - vs.toArray.size) undef, defers := [] } C.w0 := by
  refine ⟨⟨by simp [stZ, hvl], fun i s y h1 h2 => ?_, rfl⟩, hpz, hmod, ⟨rfl, rfl, rfl, Nat.le_refl _, fun _ _ _ => rfl⟩, ⟨View.le.refl C.V0, (fun b cs h1 h2 => by rw [h1] at h2; cases h2), (fun b cs h1 h2 => by
   rcases h2 with h2 | h2
   ·have := hmod.lt h1; omega
   ·exact hunf b cs h1 h2)⟩⟩
  simp only [stZ] at h1
  rw [List.getElem?_append] at h1
  rw [Array.getElem?_append] at h2
  simp only [List.size_toArray, hvl] at h2
  split at h1
  ·rw [if_pos ‹_›] at h2
   exact (hva i s y h1 (by simpa using h2)).mono (GLe.push _ _) (View.le.refl _)
  ·rw [if_neg ‹_›] at h2
   rw [List.getElem?_replicate] at h1
   rw [Array.getElem?_replicate] at h2
   split at h1
   ·rw [if_pos ‹_›] at h2
    cases h1; cases h2; exact gG _ _
   ·cases h1
 refine wp_mono (h C b0 _ _ _ _ hr) fun e a' w' q => ?_
 have fin : ∀ (g2 : List Gh) (V' : View) (st : St), Rel C g2 V' st a' w' → (∃ a, retVs ⟨P, T, C, eqk⟩ st rs = some (resL (res a)) ∧ aM (res a) ∧ Q a ∧ leH st.h (hs' a ++ pzH pz b0) ∧ (res a).below hs.length = true ∧ (hs' a).all (·.below hs.length) = true) →
     ∃ y, (results fn a'.tmps).run P w' = .ok y w' ∧ ∃ y2 a g' V', Ending.returned y = .returned y2 ∧ Q a ∧ Hp C g' V' (hs' a) w' ∧ Mod V' w' ∧ Fr C w' ∧ Vw C V' w' ∧ cSV g' V' (res a) y2 ∧ b5p pz g g' := by
  rintro g2 V' st hr' ⟨a, h1, h2, hq, h3, h4, h5⟩
  obtain ⟨vs', ls, f1, f2, f3, f4, f5⟩ := pG (E := ⟨P, T, C, eqk⟩) hT hr' h1
  have f1' : (rs.mapM (rvM a')).run P w' = .ok vs' w' := by
   rw [← f1]
   congr 2
  obtain ⟨l1, l2⟩ := h3.get
  have hz : ∀ b ∈ hs' a, b ≠ .gone ∨ b = .gone := fun b _ => by cases b <;> simp
  let st2 : St := ⟨st.t.map fun _ => .o .u, hs' a⟩
  have hle2 : st.le st2 := by
   refine ⟨?_, ?_⟩
   ·show leT st.t (st.t.map fun _ => .o .u)
    generalize st.t = t
    induction t with
    | nil => trivial
    | cons x xs ih => exact ⟨.inl rfl, ih⟩
   ·have : ∀ (l m r : List HB), leH l (m ++ r) → leH l m := fun l => by
     induction l with
     | nil => intro m r hh; cases m with
      | nil => trivial
      | cons => exact hh.elim
     | cons x xs ih => intro m r hh; cases m with
      | nil => trivial
      | cons y ys => exact ⟨hh.1, ih ys r hh.2⟩
    exact this _ _ _ h3
  have hok2 : (st2.t.all (·.below st2.h.length) && st2.h.all (·.below st2.h.length)) = true := by
   rw [Bool.and_eq_true]
   refine ⟨?_, ?_⟩
   ·rw [List.all_eq_true]
    intro s hs0
    obtain ⟨_, _, rfl⟩ := List.mem_map.1 hs0
    rfl
   ·show (hs' a).all (·.below (hs' a).length) = true
    rw [hlen a]; exact h5
  have hr2 := hr'.forget hle2 hok2
  have hn : st2.h.length = hs.length := hlen a
  rw [hn] at hr2
  refine ⟨_, kV hres f1', _, a, g2.take hs.length, V', rfl, hq, hr2.hp, hr'.mod, hr'.fr, hr'.vw, ?_, ?_⟩
  ·
   generalize res a = r at *
   have hlen2 : vs'.length = (resL r).length := f2
   cases r with
   | o x =>
    match vs', ls, f2, f3 with
    | [v], [m], _, _ =>
     obtain ⟨e1, e2⟩ := f4 0 false [x] m v rfl rfl rfl
     simp only [Bool.false_eq_true, if_false] at e1
     subst e1
     exact cSV.cut (s := .o x) (e2.2 0 x v rfl rfl) h4
   | g cs =>
    match vs', ls, f2, f3 with
    | [v], [m], _, _ =>
     obtain ⟨e1, e2⟩ := f4 0 true cs m v rfl rfl rfl
     simp only [if_true] at e1
     subst e1
     exact cSV.cut (s := .g cs) ⟨m, rfl, e2⟩ h4
   | t cs =>
    have hne : vs'.length ≠ 1 := by rw [hlen2]; exact h2
    refine cSV.cut (s := .t cs) ⟨vs', ?_, hlen2, fun k b c v hk hv => ?_⟩ h4
    ·match vs', hne with
     | [], _ => rfl
     | v :: v' :: r, _ => rfl
    ·have hlt : k < ls.length := by rw [f3]; exact (List.getElem?_eq_some_iff.1 hk).1
     obtain ⟨e1, e2⟩ := f4 k b c _ v hk (List.getElem?_eq_getElem hlt) hv
     cases b with
     | true => simp only [if_true] at e1 ⊢; exact ⟨_, e1, e2⟩
     | false => simp only [Bool.false_eq_true, if_false] at e1 ⊢; rw [← e1]; exact e2
  ·
   intro hp x hx
   subst hp
   obtain ⟨x0, e1, e2⟩ := hb0 rfl
   rw [hx] at e1
   cases e1
   obtain ⟨ty, cs, hbx⟩ := hbox rfl
   have hpos : 0 < hs.length := (List.getElem?_eq_some_iff.1 hbx).1
   have hi : (hs' a ++ pzH true b0)[hs.length]? = some (.isv 0 (.pointer (some ⟨b0, 0, none⟩))) := by
    rw [List.getElem?_append_right (by rw [hlen a]; exact Nat.le_refl _), hlen a]
    simp [pzH]
   rcases l2 _ _ hi with hgone | hst
   ·cases hgone
   ·obtain ⟨z, hz1⟩ : ∃ z, g2[hs.length]? = some z := ⟨_, List.getElem?_eq_getElem (by rw [hr'.hp.glen]; exact (List.getElem?_eq_some_iff.1 hst).1)⟩
    obtain ⟨y0, k1, k2⟩ := hr'.hp.hb _ _ z hst hz1
    refine ⟨y0, by rw [List.getElem?_take, if_pos hpos]; exact k1, ?_⟩
    have k2 : y0.blk = some b0 := k2
    rw [k2, e2]
 cases e with
 | normal =>
  obtain ⟨g1, V', st', hr', s, a0, hs0, hret⟩ := q
  obtain ⟨g2, V2, hr2⟩ := hs0 g1 V' a' w' hr'
  obtain ⟨y, hy, hd⟩ := fin g2 V2 s hr2 ⟨a0, hret⟩
  exact ⟨hr'.sl.defers, y, hy, hd⟩
 | ret =>
  obtain ⟨g1, V', st', hr', s, a0, hs0, hret⟩ := q
  obtain ⟨g2, V2, hr2⟩ := hs0 g1 V' a' w' hr'
  obtain ⟨y, hy, hd⟩ := fin g2 V2 s hr2 ⟨a0, hret⟩
  exact ⟨hr'.sl.defers, y, hy, hd⟩
 | exit id => obtain ⟨g1, V', st', hr', q⟩ := q; exact q.elim
 | goto l => exact q.elim
 | panic ch => exact q.elim
 | outgrown => exact q.elim
def zA (n : Nat) (pz : Bool) : At → At
 | .p j off => if j < n then (if pz && j == 0 then .p j off else .u) else .p j off
 | .r j sz i fo => if j < n then .u else .r j sz i fo
 | .s j => if j < n then .u else .s j
 | .e j sz i fo => if j < n then .u else .e j sz i fo
 | .n j sz i fo => if j < n then .u else .n j sz i fo
 | a => a
def zS (n : Nat) (pz : Bool) : SV → SV
 | .o a => .o (zA n pz a)
 | .g cs => .g (cs.map (zA n pz))
 | .t l => .t (l.map fun x => (x.1, x.2.map (zA n pz)))
def a3Y : Value → Bool
 | .pointer (some _) => true
 | _ => false
def zB (n : Nat) (pz : Bool) : HB → HB
 | .box ty cs => .box ty (cs.map (zA n pz))
 | .isv j v => if j < n then (if pz && j == 0 && a3Y v then .isv j v else .gone) else .isv j v
 | b => b
theorem zB_isv (n : Nat) (pz : Bool) (j : Nat) (v : Value) : zB n pz (.isv j v) = .isv j v ∨ zB n pz (.isv j v) = .gone := by
 show (if j < n then (if pz && j == 0 && a3Y v then HB.isv j v else .gone) else .isv j v) = _ ∨ _
 split
 ·split
  ·exact .inl rfl
  ·exact .inr (by show (if j < n then (if pz && j == 0 && a3Y v then HB.isv j v else .gone) else .isv j v) = _; rw [if_pos ‹_›, if_neg ‹_›])
 ·exact .inl rfl
theorem a2A (x : Gh) (n : Nat) (pz : Bool) (b : HB) : aV x (zB n pz b) = aV x b := by
 cases b with
 | isv j v => rcases zB_isv n pz j v with e | e <;> rw [e] <;> rfl
 | _ => rfl
theorem b3R (x : Gh) (n : Nat) (pz : Bool) (b : HB) : aW x (zB n pz b) = aW x b := by
 cases b with
 | isv j v => rcases zB_isv n pz j v with e | e <;> rw [e] <;> rfl
 | _ => rfl
structure ZLe (n : Nat) (pz : Bool) (g g' : List Gh) : Prop where
 old : ∀ i, n ≤ i → g'[i]? = g[i]?
 ptr : b5p pz g g'
theorem cAt.z {n : Nat} {pz : Bool} {g g' : List Gh} (k : ZLe n pz g g') {V V' : View} (hv : V.le V') {a : At} {y : Value} (h : cAt g V a y) : cAt g' V' (zA n pz a) y := by
 cases a with
 | p j off =>
  obtain ⟨gh, b, h1, h2, h3⟩ := h
  show cAt g' V' (if j < n then (if pz && j == 0 then At.p j off else .u) else .p j off) y
  split
  ·split
   ·rename_i hc
    rw [Bool.and_eq_true, beq_iff_eq] at hc
    obtain ⟨hc, rfl⟩ := hc
    obtain ⟨x', e1, e2⟩ := k.ptr hc gh h1
    exact ⟨x', b, e1, e2.trans h2, h3⟩
   ·trivial
  ·exact ⟨gh, b, by rw [k.old _ (by omega)]; exact h1, h2, h3⟩
 | r j sz i fo =>
  obtain ⟨gh, b, h1, h2, h3⟩ := h
  show cAt g' V' (if j < n then At.u else .r j sz i fo) y
  split
  ·trivial
  ·exact ⟨gh, b, by rw [k.old _ (by omega)]; exact h1, h2, h3⟩
 | s j =>
  obtain ⟨gh, h1, h2, h3⟩ := h
  show cAt g' V' (if j < n then At.u else .s j) y
  split
  ·trivial
  ·exact ⟨gh, by rw [k.old _ (by omega)]; exact h1, h2, h3⟩
 | e j sz i fo =>
  obtain ⟨gh, a, n', c, h1, h2, h3⟩ := h
  show cAt g' V' (if j < n then At.u else .e j sz i fo) y
  split
  ·trivial
  ·exact ⟨gh, a, n', c, by rw [k.old _ (by omega)]; exact h1, h2, h3⟩
 | n j sz i fo =>
  obtain ⟨gh, h1, h2, h3⟩ := h
  show cAt g' V' (if j < n then At.u else .n j sz i fo) y
  split
  ·trivial
  ·exact ⟨gh, by rw [k.old _ (by omega)]; exact h1, h2, h3⟩
 | u => trivial
 | d x => obtain ⟨S, h⟩ := h; exact ⟨S, h.mono hv⟩
 | z => exact h
 | q cs => obtain ⟨p, h1, h2⟩ := h; exact ⟨p, h1, h2.mono hv⟩
 | f fn caps => obtain ⟨l, h1, h2, h3⟩ := h; exact ⟨l, h1, h2, fun k c v hk hl => by obtain ⟨p, e, q⟩ := h3 k c v hk hl; exact ⟨p, e, q.mono hv⟩⟩
 | w ty sz rows => exact h.elim
 | m ty sz rows => exact h.elim
theorem cL.z {n : Nat} {pz : Bool} {g g' : List Gh} (k : ZLe n pz g g') {V V' : View} (hv : V.le V') {cs : List At} {l : List Value} (h : cL g V cs l) : cL g' V' (cs.map (zA n pz)) l :=
 ⟨by simp [h.1], fun j a y h1 h2 => by
  rw [List.getElem?_map] at h1
  cases hk : cs[j]? with
  | none => rw [hk] at h1; cases h1
  | some c => rw [hk] at h1; cases h1; exact (h.2 j c y hk h2).z k hv⟩
theorem cSV.z {n : Nat} {pz : Bool} {g g' : List Gh} (k : ZLe n pz g g') {V V' : View} (hv : V.le V') {s : SV} {y : Value} (h : cSV g V s y) : cSV g' V' (zS n pz s) y := by
 cases s with
 | o a => exact cAt.z k hv h
 | g cs => obtain ⟨l, h1, h2⟩ := h; exact ⟨l, h1, h2.z k hv⟩
 | t l =>
  obtain ⟨ys, h1, h2, h3⟩ := h
  refine ⟨ys, h1, by simp [h2], fun j b cs v hk hl => ?_⟩
  rw [List.getElem?_map] at hk
  cases hc : l[j]? with
  | none => rw [hc] at hk; cases hk
  | some c =>
   obtain ⟨b0, cs0⟩ := c
   rw [hc] at hk
   cases hk
   have := h3 j b0 cs0 v hc hl
   cases b0
   ·simp only [Bool.false_eq_true, if_false] at this ⊢; exact this.z k hv
   ·simp only [if_true] at this ⊢; obtain ⟨m, e, hm⟩ := this; exact ⟨m, e, hm.z k hv⟩
theorem HBok.z {n : Nat} {pz : Bool} {g g' : List Gh} (k : ZLe n pz g g') {V V' : View} (hv : V.le V') {w w' : World} {x : Gh} {b : HB} (h : HBok g V w x b) (hw : ∀ j ∈ aW x b, w'.heap[j]? = w.heap[j]?) : HBok g' V' w' x (zB n pz b) := by
 cases b with
 | box ty cs => obtain ⟨b, l, h1, h2, h3⟩ := h; exact ⟨b, l, h1, by rw [hw b (by simp [aW, h1])]; exact h2, h3.z k hv⟩
 | isv j v =>
  obtain ⟨y, h1, h2⟩ := h
  show HBok g' V' w' x (if j < n then (if pz && j == 0 && a3Y v then HB.isv j v else .gone) else .isv j v)
  split
  ·split
   ·rename_i hc
    rw [Bool.and_eq_true, Bool.and_eq_true, beq_iff_eq] at hc
    obtain ⟨⟨hc, rfl⟩, hp⟩ := hc
    obtain ⟨x', e1, e2⟩ := k.ptr hc y h1
    refine ⟨x', e1, ?_⟩
    unfold a3Y at hp
    split at hp
    ·exact e2.trans h2
    ·cases hp
   ·trivial
  ·exact ⟨y, by rw [k.old _ (by omega)]; exact h1, h2⟩
 | pin pb ty ds => exact HBok.mono (g := g) (g' := g) (b := .pin pb ty ds) h (GLe.refl g) hv hw
 | row ty sz rows lin => exact HBok.mono (g := g) (g' := g) (b := .row ty sz rows lin) h (GLe.refl g) hv hw
 | frz rows lin => exact HBok.mono (g := g) (g' := g) (w := w) (w' := w') (b := .frz rows lin) h (GLe.refl g) hv hw
 | gone => trivial
 | own tag sz rows => exact HBok.mono (g := g) (g' := g) (V := V) (V' := V') (b := .own tag sz rows) h (GLe.refl g) hv hw
 | pool ty sz items => exact HBok.mono (g := g) (g' := g) (V := V) (V' := V') (b := .pool ty sz items) h (GLe.refl g) hv hw
theorem CallS.lent {E : Env} {f : Nat} {pz : Bool} {hs : List HB} {args : List SV} {α : Type} {Q : α → Prop} {hs' : α → List HB} {res : α → SV} {st : St} {K : St → SV → Prop} (h : FnZ E.P f pz hs args Q hs' res) (rest : List HB) (hst : st.h = hs ++ rest)
    (hb : hs.all (·.below hs.length) = true) (ha : args.all (·.below hs.length) = true)
    (k : ∀ a, Q a → K ⟨st.t.map (zS hs.length pz), hs' a ++ rest.map (zB hs.length pz)⟩ (res a)) : CallS E f args st K := by
 refine ⟨h.enters, fun g V a w vs hr hvl hva => ?_⟩
 obtain ⟨t, hh⟩ := st
 simp only at hst k
 subst hst
 have hgl : g.length = hs.length + rest.length := by have := hr.hp.glen; simpa using this
 have hpt : Hp E.C (g.take hs.length) V hs w := hr.hp.take hs.length hs (fun i b hi => by rw [List.getElem?_append_left (List.getElem?_eq_some_iff.1 hi).1]; exact hi) rfl (by simp) hb
 let X := a8j (g.take hs.length) hs
 have hXlo : ∀ n ∈ X, (E.C.w0.heap.size ≤ n ∨ n ∈ E.C.X) ∧ n < w.heap.size := fun n hn => by
  obtain ⟨i, b, x, h1, h2, h3⟩ := zD.1 hn
  exact hpt.lo i b x h1 h2 n h3
 let C' : Ctx := ⟨w, X, V, hr.fr.tab fun n hn => (hXlo n hn).1⟩
 have hpc : Hp C' (g.take hs.length) V hs w := ⟨hpt.glen, hpt.hb, hpt.nd, hpt.dj, fun i b x h1 h2 n hn => ⟨.inr (zD.2 ⟨i, b, x, h1, h2, hn⟩), (hpt.lo i b x h1 h2 n hn).2⟩, hpt.rt⟩
 refine (h.calls C' (g.take hs.length) vs rfl hpc hr.mod (fun b cs h1 h2 => hr.vw.unf' b cs h1 (hXlo b h2).1) hvl fun i s y h1 h2 => (hva i s y h1 h2).cut (List.all_eq_true.1 ha s (List.mem_of_getElem? h1))).mono ?_
 rintro e w' ⟨y, a0, g1, V', rfl, hQ, hp', hm', hf', hv', hres, hptr⟩
 have hl1 : (hs' a0).length = hs.length := h.len a0
 have hg1 : g1.length = hs.length := by rw [hp'.glen, hl1]
 let g2 := g1 ++ g.drop hs.length
 have hvle : V.le V' := hv'.le
 have hz : ZLe hs.length pz g g2 := by
  refine ⟨fun i hi => ?_, fun hp x hx => ?_⟩
  ·show (g1 ++ g.drop hs.length)[i]? = _
   rw [List.getElem?_append_right (by omega), hg1, List.getElem?_drop]
   congr 1; omega
  ·by_cases hpos : 0 < hs.length
   ·obtain ⟨x', e1, e2⟩ := hptr hp x (by rw [List.getElem?_take, if_pos hpos]; exact hx)
    exact ⟨x', by show (g1 ++ g.drop hs.length)[0]? = _; rw [List.getElem?_append_left (by omega)]; exact e1, e2⟩
   ·have h0 : hs.length = 0 := by omega
    refine ⟨x, ?_, rfl⟩
    show (g1 ++ g.drop hs.length)[0]? = _
    rw [List.getElem?_append_right (by omega), hg1, List.getElem?_drop, h0]
    exact hx
 have key : ∀ (i : Nat) (c : HB) (x : Gh), (hs' a0 ++ rest.map (zB hs.length pz))[i]? = some c → g2[i]? = some x → ((hs' a0)[i]? = some c ∧ g1[i]? = some x) ∨ (hs.length ≤ i ∧ ∃ c0, (hs ++ rest)[i]? = some c0 ∧ c = zB hs.length pz c0 ∧ g[i]? = some x) := by
  intro i c x h1 h2
  by_cases hi : i < hs.length
  ·left
   rw [List.getElem?_append_left (by omega)] at h1
   have h2 : (g1 ++ g.drop hs.length)[i]? = some x := h2
   rw [List.getElem?_append_left (by omega)] at h2
   exact ⟨h1, h2⟩
  ·right
   rw [hz.old i (by omega)] at h2
   rw [List.getElem?_append_right (by omega), hl1, List.getElem?_map] at h1
   cases hc : rest[i - hs.length]? with
   | none => rw [hc] at h1; cases h1
   | some c0 =>
    rw [hc] at h1
    cases h1
    exact ⟨by omega, c0, by rw [List.getElem?_append_right (by omega)]; exact hc, rfl, h2⟩
 have hrest : ∀ (i : Nat) (c : HB) (x : Gh), hs.length ≤ i → (hs ++ rest)[i]? = some c → g[i]? = some x → ∀ n ∈ aV x c, n < w.heap.size ∧ n ∉ X := by
  intro i c x hi h1 h2 n hn
  refine ⟨(hr.hp.lo i c x h1 h2 n hn).2, fun hm => ?_⟩
  obtain ⟨j, b, z, e1, e2, e3⟩ := zD.1 hm
  have hj : j < hs.length := (List.getElem?_eq_some_iff.1 e1).1
  rw [List.getElem?_take, if_pos hj] at e2
  exact hr.hp.dj i j c b x z (by omega) h1 h2 (by rw [List.getElem?_append_left hj]; exact e1) e2 n hn e3
 have hsame : ∀ n, n < w.heap.size → n ∉ X → w'.heap[n]? = w.heap[n]? := fun n h1 h2 => hf'.block n h1 h2
 refine ⟨y, g2, V', ⟨t.map (zS hs.length pz), hs' a0 ++ rest.map (zB hs.length pz)⟩, res a0, rfl, ⟨⟨by simpa using hr.sl.size, fun i s y0 h1 h2 => ?_, hr.sl.defers⟩, ⟨?_, ?_, ?_, ?_, ?_, ?_⟩, hm', ⟨?_, ?_, ?_, ?_, ?_⟩, ⟨?_, ?_, ?_⟩⟩, ?_, k a0 hQ⟩
 ·have h1 : (t.map (zS hs.length pz))[i]? = some s := h1
  rw [List.getElem?_map] at h1
  cases hs0 : t[i]? with
  | none => rw [hs0] at h1; cases h1
  | some s0 => rw [hs0] at h1; cases h1; exact (hr.sl.slot i s0 y0 hs0 h2).z hz hvle
 ·show (g1 ++ g.drop hs.length).length = (hs' a0 ++ rest.map (zB hs.length pz)).length
  simp [hl1, hg1, hgl]
 ·intro i c x h1 h2
  rcases key i c x h1 h2 with ⟨e1, e2⟩ | ⟨hi, c0, e1, rfl, e2⟩
  ·exact (hp'.hb i c x e1 e2).mono (GLe.push _ _) (View.le.refl V') fun _ _ => rfl
  ·exact (hr.hp.hb i c0 x e1 e2).z hz hvle fun n hn => by
    obtain ⟨q1, q2⟩ := hrest i c0 x hi e1 e2 n (aY hn)
    exact hsame n q1 q2
 ·intro i c x h1 h2
  rcases key i c x h1 h2 with ⟨e1, e2⟩ | ⟨hi, c0, e1, rfl, e2⟩
  ·exact hp'.nd i c x e1 e2
  ·rw [a2A]; exact hr.hp.nd i c0 x e1 e2
 ·intro i j c c' x x' hij h1 h2 h3 h4 n hn hn'
  have lo : ∀ (i : Nat) (c : HB) (x : Gh), (hs' a0)[i]? = some c → g1[i]? = some x → n ∈ aV x c → w.heap.size ≤ n ∨ n ∈ X := fun i c x e1 e2 e3 => (hp'.lo i c x e1 e2 n e3).1
  rcases key i c x h1 h2 with ⟨e1, e2⟩ | ⟨hi, c0, e1, rfl, e2⟩
  ·rcases key j c' x' h3 h4 with ⟨e3, e4⟩ | ⟨hj, c1, e3, rfl, e4⟩
   ·exact hp'.dj i j c c' x x' hij e1 e2 e3 e4 n hn hn'
   ·rw [a2A] at hn'
    obtain ⟨q1, q2⟩ := hrest j c1 x' hj e3 e4 n hn'
    rcases lo i c x e1 e2 hn with q | q
    ·omega
    ·exact q2 q
  ·rw [a2A] at hn
   rcases key j c' x' h3 h4 with ⟨e3, e4⟩ | ⟨hj, c1, e3, rfl, e4⟩
   ·obtain ⟨q1, q2⟩ := hrest i c0 x hi e1 e2 n hn
    rcases lo j c' x' e3 e4 hn' with q | q
    ·omega
    ·exact q2 q
   ·rw [a2A] at hn'
    exact hr.hp.dj i j c0 c1 x x' hij e1 e2 e3 e4 n hn hn'
 ·intro i c x h1 h2 n hn
  rcases key i c x h1 h2 with ⟨e1, e2⟩ | ⟨hi, c0, e1, rfl, e2⟩
  ·obtain ⟨q1, q2⟩ := hp'.lo i c x e1 e2 n hn
   refine ⟨?_, q2⟩
   rcases q1 with q | q
   ·exact .inl (Nat.le_trans hr.fr.size q)
   ·exact (hXlo n q).1
  ·rw [a2A] at hn
   exact ⟨(hr.hp.lo i c0 x e1 e2 n hn).1, Nat.lt_of_lt_of_le (hr.hp.lo i c0 x e1 e2 n hn).2 hf'.size⟩
 ·intro i c x h1 h2 n hn
  rcases key i c x h1 h2 with ⟨e1, e2⟩ | ⟨hi, c0, e1, rfl, e2⟩
  ·exact hp'.rt i c x e1 e2 n hn
  ·rw [b3R] at hn
   have hVn := hr.hp.rt i c0 x e1 e2 n hn
   obtain ⟨q1, q2⟩ := hrest i c0 x hi e1 e2 n (aY hn)
   cases hV' : V' n with
   | none => rfl
   | some cs =>
    rcases hv'.fresh n cs hV' hVn with q | q
    ·have : w.heap.size ≤ n := q
     omega
    ·exact (q2 q).elim
 ·exact hf'.os.trans hr.fr.os
 ·exact hf'.tape.trans hr.fr.tape
 ·exact hf'.output.trans hr.fr.output
 ·exact Nat.le_trans hr.fr.size hf'.size
 ·intro n h1 h2
  rw [hsame n (Nat.lt_of_lt_of_le h1 hr.fr.size) fun hm => ?_]
  ·exact hr.fr.block n h1 h2
  ·rcases (hXlo n hm).1 with q | q
   ·omega
   ·exact h2 q
 ·exact hr.vw.le.trans hvle
 ·intro n cs h1 h2
  cases hV : V n with
  | some cs0 => exact hr.vw.fresh n cs0 hV h2
  | none =>
   rcases hv'.fresh n cs h1 hV with q | q
   ·exact .inl (Nat.le_trans hr.fr.size q)
   ·exact (hXlo n q).1
 ·intro n cs h1 h2
  by_cases hx : w.heap.size ≤ n ∨ n ∈ X
  ·exact hv'.unf' n cs h1 hx
  ·have q1 : n < w.heap.size := Nat.lt_of_not_le fun h => hx (.inl h)
   have q2 : n ∉ X := fun h => hx (.inr h)
   cases hV : V n with
   | none => exact absurd (hv'.fresh n cs h1 hV) hx
   | some cs0 =>
    obtain ⟨c, ty, e⟩ := hr.vw.unf' n cs0 hV h2
    exact ⟨c, ty, by rw [hsame n q1 q2]; exact e⟩
 ·exact hres.mono (GLe.push _ _) (View.le.refl V')
theorem Rel.nilB {C : Ctx} {g : List Gh} {V : View} {st : St} {a : Act} {w : World} (hr : Rel C g V st a w) (id k ty sz : Nat) {bt : Nat} {cs : List At} (hb : dO st.h id = .box bt cs) (hz : cs[k]? = some .z) :
    Rel C (g ++ [⟨none, .slice none 0 0, [], []⟩]) V ⟨st.t, setH st.h id (.box bt (cs.set k (.s st.h.length))) ++ [.row ty sz [] true]⟩ a w := by
 have hr1 := hr.nilRow ty sz
 have hi := aG hb (by simp)
 have hlt : id < st.h.length := (List.getElem?_eq_some_iff.1 hi).1
 have hgl : g.length = st.h.length := hr.hp.glen
 have hx : g[id]? = some (g[id]'(by omega)) := List.getElem?_eq_getElem _
 generalize g[id]'(by omega) = x at hx
 have hok := hr.hp.hb id _ x hi hx
 obtain ⟨b, l, h1, h2, h3⟩ := hok
 have hx' : (g ++ [⟨none, .slice none 0 0, [], []⟩])[id]? = some x := by rw [List.getElem?_append_left (by omega)]; exact hx
 have hi' : (st.push (.row ty sz [] true)).h[id]? = some (.box bt cs) := by simp only [St.push]; rw [List.getElem?_append_left hlt]; exact hi
 have hset := hr1.hp.set (w' := w) id (b' := .box bt (cs.set k (.s st.h.length))) hi' hx' (fun n hn => hn) (show (aV x (.box bt cs)).Nodup from hr1.hp.nd id _ x hi' hx') (fun n hn => hn) ⟨b, l, h1, h2, by simp [h3.1], fun j c y q1 q2 => by
  rw [List.getElem?_set] at q1
  by_cases e : k = j
  ·subst e
   rw [if_pos rfl] at q1
   split at q1
   ·cases q1
    have hy : y = .slice none 0 0 := h3.2 k .z y hz q2
    exact ⟨⟨none, .slice none 0 0, [], []⟩, by rw [List.getElem?_append_right (by omega)]; simp [hgl], hy, by subst hy; rfl⟩
   ·cases q1
  ·rw [if_neg e] at q1
   exact (h3.2 j c y q1 q2).mono (GLe.push _ _) (View.le.refl V)⟩ (fun _ _ => rfl) rfl
 have e : (st.push (.row ty sz [] true)).h.set id (.box bt (cs.set k (.s st.h.length))) = setH st.h id (.box bt (cs.set k (.s st.h.length))) ++ [.row ty sz [] true] := by
  simp only [St.push, bQ]
  rw [List.set_append_left _ _ hlt]
 rw [e] at hset
 exact ⟨hr1.sl, hset, hr1.mod, hr1.fr, hr1.vw⟩
theorem CallS.nilB {E : Env} {f : Nat} {args : List SV} {st : St} {K : St → SV → Prop} (id k ty sz : Nat) {bt : Nat} {cs : List At} (hb : dO st.h id = .box bt cs) (hz : cs[k]? = some .z)
    (c : CallS E f args ⟨st.t, setH st.h id (.box bt (cs.set k (.s st.h.length))) ++ [.row ty sz [] true]⟩ K) : CallS E f args st K :=
 CallS.sees (fun g V _ _ hr => ⟨_, V, hr.nilB id k ty sz hb hz⟩) (fun g V _ _ hr => ⟨_, V, hr.nilB id k ty sz hb hz, GLe.push _ _, View.le.refl V⟩) c
end Go.Sx
end
section
namespace Go.Proofs.YtgpoopjfkplilaaGreatDoor
open Go Go.Sx Go.RowKit Go.Proofs
attribute [go_sem] stZ pzH zA zS zB a3Y
theorem b2B {f : Nat} {fn : Func} {c : Code} {rs : List ResultVar} {pz : Bool} {hs : List HB} {args : List SV} {α : Type} {Q : α → Prop} {hs' : α → List HB} {res : α → SV} (hf : Tryz.prog.funcs[f]? = some fn) (hb : fn.body = some c) (hcall : ∀ x w, (callFunc f x).run Tryz.prog w = .ok (.enter f x) w) (hres : fn.results = rs.toArray)
    (hlen : ∀ a, (hs' a).length = hs.length) (hbox : pz = true → ∃ ty cs, hs[0]? = some (.box ty cs))
    (h : ∀ (C : Ctx) (b : Nat), WP Tryz.prog C c (bP Tryz.prog C [] (b5q (EV C) rs pz b hs.length Q hs' res)) (stZ pz b hs args fn.ntmps)) : FnZ Tryz.prog f pz hs args Q hs' res := FnZ.of_wp (eqk := eqk) a4m hf hb hcall hres hlen hbox h
theorem iK {C : Ctx} {f : Nat} {pz : Bool} {hs : List HB} {args : List SV} {α : Type} {Q : α → Prop} {hs' : α → List HB} {res : α → SV} {st : St} {K : St → SV → Prop} (h : FnZ Tryz.prog f pz hs args Q hs' res) (rest : List HB) (hst : st.h = hs ++ rest)
    (hb : hs.all (·.below hs.length) = true) (ha : args.all (·.below hs.length) = true)
    (k : ∀ a, Q a → K ⟨st.t.map (zS hs.length pz), hs' a ++ rest.map (zB hs.length pz)⟩ (res a)) : CallT (EV C) f args st K ⟨⟩ := ⟨CallS.lent (E := EV C) h rest hst hb ha k⟩
theorem b3Q {C : Ctx} {f : Nat} {args : List SV} {st : St} {K : St → SV → Prop} (id k ty sz : Nat) {bt : Nat} {cs : List At} (hb : dO st.h id = .box bt cs) (hz : cs[k]? = some .z)
    (c : CallT (EV C) f args ⟨st.t, setH st.h id (.box bt (cs.set k (.s st.h.length))) ++ [.row ty sz [] true]⟩ K ⟨⟩) : CallT (EV C) f args st K ⟨⟩ := ⟨CallS.nilB (E := EV C) id k ty sz hb hz c.out⟩
end Go.Proofs.YtgpoopjfkplilaaGreatDoor
end
section
set_option maxRecDepth 100000
set_option maxHeartbeats 4000000
namespace Go.Proofs.YtgpoopjfkplilaaGreatDoor
open Go Go.Sx Go.Wd Go.RowKit Go.Proofs
@[go_sem] def hsQ (fs : List ByteArray) (ns : List TNode) : List HB := [.box 185 [.d (.sl (fs.map bD)), .s 1], .row 155 7 (ns.map bG) true]
theorem b2z {α : Type} (l : List α) : l.take ((l.length : Int)).toNat = l := by simp
theorem rows1 (w : ByteArray) (fs : List ByteArray) : ∀ r ∈ ([sv w] : List D) :: List.map bD fs, r.length = 1 := fun r hr => by
 rcases List.mem_cons.1 hr with rfl | hr
 ·rfl
 ·obtain ⟨x, _, rfl⟩ := List.mem_map.1 hr; rfl
theorem oM (fs : List ByteArray) (ns : List TNode) : FnZ Tryz.prog 198 true (hsQ fs ns) [.o (.p 0 0)] (fun _ : Unit => True) (fun _ => hsQ fs.tail ns) (fun _ => os (hd fs)) := by
 refine b2B Tryz.func198 rfl Tryz.call198 rfl (fun _ => rfl) (fun _ => ⟨_, _, rfl⟩) (fun C b => ?_)
 simp only [go_sem, Tryz.ntmps198]
 cases fs with
 | nil =>
  have d : decide (((0 : Nat) : Int) = 0) = true := rfl
  have q0 := @d; refine oV ?_
  exact aQ () trivial (by simp only [go_sem]; rfl) trivial (by simp only [go_sem]; simp) rfl rfl
 | cons w fs =>
  have d : decide (((fs.length + 1 : Nat) : Int) = 0) = false := by simp; omega
  repeat' (with_reducible first | refine nY ?_ | (refine mX ?_; try simp only [go_sem, d, qJ, List.length_map, List.length_cons, b2z, List.drop_succ_cons, List.drop_zero, List.take_succ_cons]) | refine kO ?_ (by decide) | refine a7e (by kernel_rfl) ?_ | refine And.intro (rows1 w fs) ?_ | (refine And.intro ?_ ?_; focus omega))
  exact aQ () trivial (by simp only [go_sem]; rfl) trivial (by simp only [go_sem]; simp [List.take_of_length_le]) rfl rfl
def wX : Nat → ByteArray → Int
 | 0, _ => 0
 | j + 1, w => if w = kw (j + 1) then j + 1 else wX j w
theorem b2A (w : ByteArray) : wX 9 w = jK w := by
 by_cases h1 : w = kw 1
 ·subst h1; decide
 by_cases h2 : w = kw 2
 ·subst h2; decide
 by_cases h3 : w = kw 3
 ·subst h3; decide
 by_cases h4 : w = kw 4
 ·subst h4; decide
 by_cases h5 : w = kw 5
 ·subst h5; decide
 by_cases h6 : w = kw 6
 ·subst h6; decide
 by_cases h7 : w = kw 7
 ·subst h7; decide
 by_cases h8 : w = kw 8
 ·subst h8; decide
 by_cases h9 : w = kw 9
 ·subst h9; decide
 have e : jK w = 0 := by simp [jK, h1, h2, h3, h4, h5, h6, h7, h8, h9]
 rw [e]
 simp [wX, h1, h2, h3, h4, h5, h6, h7, h8, h9]
theorem qG : ∀ k fs ns, (nodeI k fs ns).2.1.length ≤ fs.length ∧ (nodeI k fs ns).2.2.length + (nodeI k fs ns).2.1.length ≤ ns.length + fs.length + (if (nodeI k fs ns).1 then 0 else 1)
 | 0, fs, ns => by simp [nodeI]
 | k + 1, fs, ns => by
  have hne : jK (hd fs) ≠ 0 → 1 ≤ fs.length := fun h => by
   cases fs with
   | nil => exact absurd xD h
   | cons => simp
  have ht : fs.tail.length = fs.length - 1 := by simp
  have ht2 : fs.tail.tail.length = fs.length - 1 - 1 := by simp
  have ht3 : fs.tail.tail.tail.length = fs.length - 1 - 1 - 1 := by simp
  obtain ⟨a1, a2⟩ := qG k fs.tail ns
  obtain ⟨b1, b2⟩ := qG k (nodeI k fs.tail ns).2.1 (nodeI k fs.tail ns).2.2
  unfold nodeI
  simp only
  split
  ·rename_i h
   have := hne (by omega)
   simp only [List.length_append, List.length_cons, List.length_nil, if_true]
   omega
  ·split
   ·rename_i h
    have := hne (by omega)
    simp only [List.length_append, List.length_cons, List.length_nil]
    split <;> omega
   ·split
    ·rename_i h
     have := hne (by omega)
     simp only [List.length_append, List.length_cons, List.length_nil]
     revert a2
     cases (nodeI k fs.tail ns).1 <;> simp <;> intros <;> omega
    ·split
     ·rename_i h
      have := hne (by omega)
      split
      ·rename_i h1
       simp only [List.length_append, List.length_cons, List.length_nil]
       simp only [h1, if_true] at a2
       revert b2
       cases (nodeI k (nodeI k fs.tail ns).2.1 (nodeI k fs.tail ns).2.2).1 <;> simp <;> intros <;> omega
      ·rename_i h1
       simp only [List.length_append, List.length_cons, List.length_nil]
       simp only [h1, Bool.false_eq_true, if_false] at a2 ⊢
       omega
     ·simp only [List.length_append, List.length_cons, List.length_nil]
      by_cases h0 : jK (hd fs) = 0
      ·simp [h0]; omega
      ·have := hne h0
       simp [h0]; omega
theorem a9l {fs : List ByteArray} {n : Nat} (h : ∀ w ∈ fs, w.size ≤ n) : (hd fs).size ≤ n := by
 cases fs with
 | nil => have : (⟨#[]⟩ : ByteArray).size = 0 := rfl
          show (⟨#[]⟩ : ByteArray).size ≤ n
          omega
 | cons w fs => exact h w (by simp)
theorem uW : ∀ k fs ns, ∀ w ∈ (nodeI k fs ns).2.1, w ∈ fs
 | 0, fs, ns, w, h => by simpa [nodeI] using h
 | k + 1, fs, ns, w, h => by
  have t1 : ∀ {l : List ByteArray}, w ∈ l.tail → w ∈ l := fun h => List.mem_of_mem_tail h
  have a := uW k fs.tail ns w
  have b := uW k (nodeI k fs.tail ns).2.1 (nodeI k fs.tail ns).2.2 w
  unfold nodeI at h
  simp only at h
  split at h
  ·exact t1 (t1 h)
  ·split at h
   ·exact t1 (t1 (t1 h))
   ·split at h
    ·exact t1 (a h)
    ·split at h
     ·split at h
      ·exact t1 (a (b h))
      ·exact t1 (a h)
     ·exact t1 h
theorem b3M : ∀ (k : Nat) (fs : List ByteArray) (ns : List TNode), fs.length < k → ns.length + fs.length ≤ 1000000 → (∀ w ∈ fs, w.size ≤ 4300000) →
    FnZ Tryz.prog 150 true (hsQ fs ns) [.o (.p 0 0)] (fun _ : Unit => True) (fun _ => hsQ (nodeI k fs ns).2.1 (nodeI k fs ns).2.2) (fun _ => ob (nodeI k fs ns).1) := by
 intro k
 induction k with
 | zero => intro fs ns h; omega
 | succ k ih =>
 intro fs ns hk hlen hws
 refine b2B Tryz.func150 rfl Tryz.call150 rfl (fun _ => rfl) (fun _ => ⟨_, _, rfl⟩) (fun C b => ?_)
 simp only [go_sem, Tryz.ntmps150]
 refine aJ ?_
 refine iK (oM fs ns) _ rfl rfl rfl ?_
 rintro ⟨⟩ _
 simp only [go_sem]
 have ht : fs.tail.length = fs.length - 1 := by simp
 have ht2 : fs.tail.tail.length = fs.length - 1 - 1 := by simp
 refine aJ ?_
 refine bE (α := Nat) (fun j => [(5, oi ((j : Nat) + 1 : Int))]) (fun j => [(3, .box 155 [.d (iv (wX j (hd fs))), .d (iv 0), .d (iv 0), .d (sv ⟨#[]⟩), .d (iv 0), .d (iv 0), .d (sv ⟨#[]⟩)])]) (fun j => j ≤ 9) (fun j => 9 - j) 0 (fun _ => ?_) ?_ ?_ (fun j hj => ?_)
 ·simp only [go_sem]
 ·simp only [go_sem, wX]; simp
 ·omega
 ·simp only [go_sem]
  refine aJ ?_
  refine cnd rfl (fun h => ?_) (fun h => ?_)
  ·simp only [decide_eq_true_eq] at h
   have ck := iL ((j : Int) + 1) (by omega)
   by_cases hw : kw ((j : Int) + 1) = hd fs
   ·have d : decide (kw ((j : Int) + 1) = hd fs) = true := by simp [hw]
    have e : wX (j + 1) (hd fs) = (j : Int) + 1 := by unfold wX; rw [if_pos hw.symm]
    clear hw
    have q0 := @d; refine kM ck ?_
    refine aH (j + 1) ?_ ?_ ?_
    ·simp only [go_sem, e]; simp
    ·omega
    ·omega
   ·have d : decide (kw ((j : Int) + 1) = hd fs) = false := by simp [hw]
    have e : wX (j + 1) (hd fs) = wX j (hd fs) := by show (if hd fs = kw ((j : Int) + 1) then _ else _) = _; rw [if_neg (fun e => hw e.symm)]
    clear hw
    have q0 := @d; refine kM ck ?_
    refine aH (j + 1) ?_ ?_ ?_
    ·simp only [go_sem, e]; simp
    ·omega
    ·omega
  simp only [decide_eq_false_iff_not] at h
  have ej : j = 9 := by omega
  subst ej
  rw [b2A]
  have hop := a8o (hd fs)
  have hl := qG k fs.tail ns
  have hne : jK (hd fs) ≠ 0 → 1 ≤ fs.length := fun h => by
   cases fs with
   | nil => exact absurd xD h
   | cons => simp
  have hwt : ∀ w ∈ fs.tail, w.size ≤ 4300000 := fun w hw => hws w (List.mem_of_mem_tail hw)
  have hmu : nodeI (k + 1) fs ns = _ := nodeI.eq_2 ..
  generalize ho : jK (hd fs) = o at *
  rcases (by omega : o = 0 ∨ o = 1 ∨ o = 2 ∨ o = 3 ∨ o = 4 ∨ o = 5 ∨ o = 6 ∨ o = 7 ∨ o = 8 ∨ o = 9) with rfl | rfl | rfl | rfl | rfl | rfl | rfl | rfl | rfl | rfl
  ·have hm : nodeI (k + 1) fs ns = (false, fs.tail, ns ++ [⟨0, 0, 0, ⟨#[]⟩, v0⟩]) := by rw [hmu]; simp [ho]
   have g1 : ns.length + 1 ≤ 140737488355328 := by omega
   have g2 : (ns.length + 1) * 80 ≤ 140737488355328 := by omega
   have qH := aI @g1 (aI @g2 @bI); repeat' (with_reducible first | refine nY ?_ | (refine mX ?_; try simp only [go_sem, qH]) | refine kD ?_ | (apply rE [6,7,10] [] [0,1,2,3,4,5] [0,1,2,3,4,5] ((.c 6 [] [0,1,2,3,4] (.c 7 [8,9] [0,8,9] (.c 10 [] [] .n .n) .n) .n)) (by simp only [go_sem]; rfl) (by simp only [go_sem]; rfl) (by simp only [go_sem]; rfl) (by decide +kernel); (focus simp only [go_sem]; done)) | exact dR | refine bV (uX ?_) ?_ | refine bW (aX ?_) ?_ | refine bX (aX ?_) ?_ | exact bU | exact oH | exact uB | refine rD ?_ | refine aO ?_ | fail)
   exact aQ () trivial (by simp only [go_sem, hm] <;> rfl) trivial (by simp only [go_sem, hm, List.map_append]; simp [v0]) rfl rfl
  ·have hm : nodeI (k + 1) fs ns = (true, fs.tail, ns ++ [⟨1, 0, 0, ⟨#[]⟩, v0⟩]) := by rw [hmu]; simp [ho]
   have g1 : ns.length + 1 ≤ 140737488355328 := by omega
   have g2 : (ns.length + 1) * 80 ≤ 140737488355328 := by omega
   have qH := aI @g1 (aI @g2 @bI); repeat' (with_reducible first | refine nY ?_ | (refine mX ?_; try simp only [go_sem, qH]) | refine kD ?_ | (apply rE [6,7,10] [] [0,1,2,3,4,5] [0,1,2,3,4,5] ((.c 6 [] [0,1,2,3,4] (.c 7 [8,9] [0,8,9] (.c 10 [] [] .n .n) .n) .n)) (by simp only [go_sem]; rfl) (by simp only [go_sem]; rfl) (by simp only [go_sem]; rfl) (by decide +kernel); (focus simp only [go_sem]; done)) | exact dR | refine bV (uX ?_) ?_ | refine bW (aX ?_) ?_ | refine bX (aX ?_) ?_ | exact bU | exact oH | exact uB | refine rD ?_ | refine aO ?_ | fail)
   exact aQ () trivial (by simp only [go_sem, hm] <;> rfl) trivial (by simp only [go_sem, hm, List.map_append]; simp [v0]) rfl rfl
  ·have hm : nodeI (k + 1) fs ns = (true, fs.tail.tail, ns ++ [⟨2, 0, 0, hd fs.tail, v0⟩]) := by rw [hmu]; simp [ho]
   have g1 : ns.length + 1 ≤ 140737488355328 := by omega
   have g2 : (ns.length + 1) * 80 ≤ 140737488355328 := by omega
   refine aJ ?_
   refine iK (oM fs.tail ns) _ rfl rfl rfl ?_
   rintro ⟨⟩ _
   simp only [go_sem]
   have qH := aI @g1 (aI @g2 @bI); repeat' (with_reducible first | refine nY ?_ | (refine mX ?_; try simp only [go_sem, qH]) | refine kD ?_ | (apply rE [6,7,10] [] [0,1,2,3,4,5] [0,1,2,3,4,5] ((.c 6 [] [0,1,2,3,4] (.c 7 [8,9] [0,8,9] (.c 10 [] [] .n .n) .n) .n)) (by simp only [go_sem]; rfl) (by simp only [go_sem]; rfl) (by simp only [go_sem]; rfl) (by decide +kernel); (focus simp only [go_sem]; done)) | exact dR | refine bV (uX ?_) ?_ | refine bW (aX ?_) ?_ | refine bX (aX ?_) ?_ | exact bU | exact oH | exact uB | refine rD ?_ | refine aO ?_ | fail)
   exact aQ () trivial (by simp only [go_sem, hm] <;> rfl) trivial (by simp only [go_sem, hm, List.map_append]; simp [v0]) rfl rfl
  ·have hm : nodeI (k + 1) fs ns = ((pV (hd fs.tail.tail)).2, fs.tail.tail.tail, ns ++ [⟨3, 0, 0, hd fs.tail, (pV (hd fs.tail.tail)).1⟩]) := by rw [hmu]; simp [ho]
   have g1 : ns.length + 1 ≤ 140737488355328 := by omega
   have g2 : (ns.length + 1) * 80 ≤ 140737488355328 := by omega
   have cv := kQ (hd fs.tail.tail) (a9l fun w hw => hwt w (List.mem_of_mem_tail hw))
   refine aJ ?_
   refine iK (oM fs.tail ns) _ rfl rfl rfl ?_
   rintro ⟨⟩ _
   simp only [go_sem]
   refine aJ ?_
   refine iK (oM fs.tail.tail ns) _ rfl rfl rfl ?_
   rintro ⟨⟩ _
   simp only [go_sem]
   have qH := aI @g1 (aI @g2 @bI); repeat' (with_reducible first | refine nY ?_ | (refine mX ?_; try simp only [go_sem, qH]) | refine kD ?_ | (apply rE [6,7,10] [] [0,1,2,3,4,5] [0,1,2,3,4,5] ((.c 6 [] [0,1,2,3,4] (.c 7 [8,9] [0,8,9] (.c 10 [] [] .n .n) .n) .n)) (by simp only [go_sem]; rfl) (by simp only [go_sem]; rfl) (by simp only [go_sem]; rfl) (by decide +kernel); (focus simp only [go_sem]; done)) | exact dR | refine bV (uX ?_) ?_ | refine bW (aX ?_) ?_ | refine bX (aX ?_) ?_ | exact bU | exact oH | exact uB | refine rD ?_ | refine cP cv ?_ | refine aO ?_ | fail)
   exact aQ () trivial (by simp only [go_sem, hm] <;> rfl) trivial (by simp only [go_sem, hm, List.map_append]; simp [v0]) rfl rfl
  ·have hm : nodeI (k + 1) fs ns = ((pV (hd fs.tail.tail)).2, fs.tail.tail.tail, ns ++ [⟨4, 0, 0, hd fs.tail, (pV (hd fs.tail.tail)).1⟩]) := by rw [hmu]; simp [ho]
   have g1 : ns.length + 1 ≤ 140737488355328 := by omega
   have g2 : (ns.length + 1) * 80 ≤ 140737488355328 := by omega
   have cv := kQ (hd fs.tail.tail) (a9l fun w hw => hwt w (List.mem_of_mem_tail hw))
   refine aJ ?_
   refine iK (oM fs.tail ns) _ rfl rfl rfl ?_
   rintro ⟨⟩ _
   simp only [go_sem]
   refine aJ ?_
   refine iK (oM fs.tail.tail ns) _ rfl rfl rfl ?_
   rintro ⟨⟩ _
   simp only [go_sem]
   have qH := aI @g1 (aI @g2 @bI); repeat' (with_reducible first | refine nY ?_ | (refine mX ?_; try simp only [go_sem, qH]) | refine kD ?_ | (apply rE [6,7,10] [] [0,1,2,3,4,5] [0,1,2,3,4,5] ((.c 6 [] [0,1,2,3,4] (.c 7 [8,9] [0,8,9] (.c 10 [] [] .n .n) .n) .n)) (by simp only [go_sem]; rfl) (by simp only [go_sem]; rfl) (by simp only [go_sem]; rfl) (by decide +kernel); (focus simp only [go_sem]; done)) | exact dR | refine bV (uX ?_) ?_ | refine bW (aX ?_) ?_ | refine bX (aX ?_) ?_ | exact bU | exact oH | exact uB | refine rD ?_ | refine cP cv ?_ | refine aO ?_ | fail)
   exact aQ () trivial (by simp only [go_sem, hm] <;> rfl) trivial (by simp only [go_sem, hm, List.map_append]; simp [v0]) rfl rfl
  ·have hm : nodeI (k + 1) fs ns = ((nodeI k fs.tail ns).1, (nodeI k fs.tail ns).2.1, (nodeI k fs.tail ns).2.2 ++ [⟨5, ((nodeI k fs.tail ns).2.2.length : Int) - 1, 0, ⟨#[]⟩, v0⟩]) := by rw [hmu]; simp [ho]
   have h1 := hne (by omega)
   have ci := ih fs.tail ns (by omega) (by omega) hwt
   obtain ⟨a1, a2⟩ := hl
   generalize nodeI k fs.tail ns = r at *
   obtain ⟨r1, r2, r3⟩ := r
   simp only at *
   have hb : r3.length ≤ 1000001 := by revert a2; split <;> intros <;> omega
   have g1 : r3.length + 1 ≤ 140737488355328 := by omega
   have g2 : (r3.length + 1) * 80 ≤ 140737488355328 := by omega
   have i1 : inR .i64 ((r3.length : Int) - 1) := by unfold inR; simp only; omega
   refine aJ ?_
   refine iK ci _ rfl rfl rfl ?_
   rintro ⟨⟩ _
   simp only [go_sem]
   have qH := aI @g1 (aI @g2 (aI @i1 @bI)); repeat' (with_reducible first | refine nY ?_ | (refine mX ?_; try simp only [go_sem, qH]) | refine kD ?_ | (apply rE [6,7,10] [] [0,1,2,3,4,5] [0,1,2,3,4,5] ((.c 6 [] [0,1,2,3,4] (.c 7 [8,9] [0,8,9] (.c 10 [] [] .n .n) .n) .n)) (by simp only [go_sem]; rfl) (by simp only [go_sem]; rfl) (by simp only [go_sem]; rfl) (by decide +kernel); (focus simp only [go_sem]; done)) | exact dR | refine bV (uX ?_) ?_ | refine bW (aX ?_) ?_ | refine bX (aX ?_) ?_ | exact bU | exact oH | exact uB | refine rD ?_ | refine aO ?_ | fail)
   exact aQ () trivial (by simp only [go_sem, hm] <;> rfl) trivial (by simp only [go_sem, hm, List.map_append]; simp [v0]) rfl rfl
  ·have h1 := hne (by omega)
   have ci := ih fs.tail ns (by omega) (by omega) hwt
   obtain ⟨a1, a2⟩ := hl
   have hl2 := qG k (nodeI k fs.tail ns).2.1 (nodeI k fs.tail ns).2.2
   have hsub := uW k fs.tail ns
   have hm0 : nodeI (k + 1) fs ns = if (nodeI k fs.tail ns).1 then ((nodeI k (nodeI k fs.tail ns).2.1 (nodeI k fs.tail ns).2.2).1, (nodeI k (nodeI k fs.tail ns).2.1 (nodeI k fs.tail ns).2.2).2.1, (nodeI k (nodeI k fs.tail ns).2.1 (nodeI k fs.tail ns).2.2).2.2 ++ [⟨6, ((nodeI k fs.tail ns).2.2.length : Int) - 1, ((nodeI k (nodeI k fs.tail ns).2.1 (nodeI k fs.tail ns).2.2).2.2.length : Int) - 1, ⟨#[]⟩, v0⟩]) else (false, (nodeI k fs.tail ns).2.1, (nodeI k fs.tail ns).2.2 ++ [⟨6, ((nodeI k fs.tail ns).2.2.length : Int) - 1, ((nodeI k fs.tail ns).2.2.length : Int) - 1, ⟨#[]⟩, v0⟩]) := by rw [hmu]; simp [ho]
   clear hmu
   generalize nodeI k fs.tail ns = r at *
   obtain ⟨r1, r2, r3⟩ := r
   simp only at *
   have hb : r3.length + r2.length ≤ 1000001 := by revert a2; split <;> intros <;> omega
   have i1 : inR .i64 ((r3.length : Int) - 1) := by unfold inR; simp only; omega
   cases r1
   ·have hm := hm0
    rw [if_neg (by simp)] at hm
    have g1 : r3.length + 1 ≤ 140737488355328 := by omega
    have g2 : (r3.length + 1) * 80 ≤ 140737488355328 := by omega
    refine aJ ?_
    refine iK ci _ rfl rfl rfl ?_
    rintro ⟨⟩ _
    simp only [go_sem]
    have qH := aI @g1 (aI @g2 (aI @i1 @bI)); repeat' (with_reducible first | refine nY ?_ | (refine mX ?_; try simp only [go_sem, qH]) | refine kD ?_ | (apply rE [6,7,10] [] [0,1,2,3,4,5] [0,1,2,3,4,5] ((.c 6 [] [0,1,2,3,4] (.c 7 [8,9] [0,8,9] (.c 10 [] [] .n .n) .n) .n)) (by simp only [go_sem]; rfl) (by simp only [go_sem]; rfl) (by simp only [go_sem]; rfl) (by decide +kernel); (focus simp only [go_sem]; done)) | exact dR | refine bV (uX ?_) ?_ | refine bW (aX ?_) ?_ | refine bX (aX ?_) ?_ | exact bU | exact oH | exact uB | refine rD ?_ | refine aO ?_ | fail)
    exact aQ () trivial (by simp only [go_sem, hm] <;> rfl) trivial (by simp only [go_sem, hm, List.map_append]; simp [v0]) rfl rfl
   ·have hm := hm0
    rw [if_pos rfl] at hm
    rw [if_pos rfl] at a2
    have ci2 := ih r2 r3 (by omega) (by omega) (fun w hw => hwt w (hsub w hw))
    generalize nodeI k r2 r3 = t at *
    obtain ⟨t1, t2, t3⟩ := t
    simp only at *
    have hb3 : t3.length ≤ 1000002 := by have := hl2.2; revert this; split <;> intros <;> omega
    have g1 : t3.length + 1 ≤ 140737488355328 := by omega
    have g2 : (t3.length + 1) * 80 ≤ 140737488355328 := by omega
    have i2 : inR .i64 ((t3.length : Int) - 1) := by unfold inR; simp only; omega
    refine aJ ?_
    refine iK ci _ rfl rfl rfl ?_
    rintro ⟨⟩ _
    simp only [go_sem]
    have q0 := @i1; have q1 := @bI; refine jN ?_
    refine iK ci2 _ rfl rfl rfl ?_
    rintro ⟨⟩ _
    simp only [go_sem]
    have qH := aI @g1 (aI @g2 (aI @i2 @bI)); repeat' (with_reducible first | refine nY ?_ | (refine mX ?_; try simp only [go_sem, qH]) | refine kD ?_ | (apply rE [6,7,10] [] [0,1,2,3,4,5] [0,1,2,3,4,5] ((.c 6 [] [0,1,2,3,4] (.c 7 [8,9] [0,8,9] (.c 10 [] [] .n .n) .n) .n)) (by simp only [go_sem]; rfl) (by simp only [go_sem]; rfl) (by simp only [go_sem]; rfl) (by decide +kernel); (focus simp only [go_sem]; done)) | exact dR | refine bV (uX ?_) ?_ | refine bW (aX ?_) ?_ | refine bX (aX ?_) ?_ | exact bU | exact oH | exact uB | refine rD ?_ | refine aO ?_ | fail)
    exact aQ () trivial (by simp only [go_sem, hm] <;> rfl) trivial (by simp only [go_sem, hm, List.map_append]; simp [v0]) rfl rfl
  ·have h1 := hne (by omega)
   have ci := ih fs.tail ns (by omega) (by omega) hwt
   obtain ⟨a1, a2⟩ := hl
   have hl2 := qG k (nodeI k fs.tail ns).2.1 (nodeI k fs.tail ns).2.2
   have hsub := uW k fs.tail ns
   have hm0 : nodeI (k + 1) fs ns = if (nodeI k fs.tail ns).1 then ((nodeI k (nodeI k fs.tail ns).2.1 (nodeI k fs.tail ns).2.2).1, (nodeI k (nodeI k fs.tail ns).2.1 (nodeI k fs.tail ns).2.2).2.1, (nodeI k (nodeI k fs.tail ns).2.1 (nodeI k fs.tail ns).2.2).2.2 ++ [⟨7, ((nodeI k fs.tail ns).2.2.length : Int) - 1, ((nodeI k (nodeI k fs.tail ns).2.1 (nodeI k fs.tail ns).2.2).2.2.length : Int) - 1, ⟨#[]⟩, v0⟩]) else (false, (nodeI k fs.tail ns).2.1, (nodeI k fs.tail ns).2.2 ++ [⟨7, ((nodeI k fs.tail ns).2.2.length : Int) - 1, ((nodeI k fs.tail ns).2.2.length : Int) - 1, ⟨#[]⟩, v0⟩]) := by rw [hmu]; simp [ho]
   clear hmu
   generalize nodeI k fs.tail ns = r at *
   obtain ⟨r1, r2, r3⟩ := r
   simp only at *
   have hb : r3.length + r2.length ≤ 1000001 := by revert a2; split <;> intros <;> omega
   have i1 : inR .i64 ((r3.length : Int) - 1) := by unfold inR; simp only; omega
   cases r1
   ·have hm := hm0
    rw [if_neg (by simp)] at hm
    have g1 : r3.length + 1 ≤ 140737488355328 := by omega
    have g2 : (r3.length + 1) * 80 ≤ 140737488355328 := by omega
    refine aJ ?_
    refine iK ci _ rfl rfl rfl ?_
    rintro ⟨⟩ _
    simp only [go_sem]
    have qH := aI @g1 (aI @g2 (aI @i1 @bI)); repeat' (with_reducible first | refine nY ?_ | (refine mX ?_; try simp only [go_sem, qH]) | refine kD ?_ | (apply rE [6,7,10] [] [0,1,2,3,4,5] [0,1,2,3,4,5] ((.c 6 [] [0,1,2,3,4] (.c 7 [8,9] [0,8,9] (.c 10 [] [] .n .n) .n) .n)) (by simp only [go_sem]; rfl) (by simp only [go_sem]; rfl) (by simp only [go_sem]; rfl) (by decide +kernel); (focus simp only [go_sem]; done)) | exact dR | refine bV (uX ?_) ?_ | refine bW (aX ?_) ?_ | refine bX (aX ?_) ?_ | exact bU | exact oH | exact uB | refine rD ?_ | refine aO ?_ | fail)
    exact aQ () trivial (by simp only [go_sem, hm] <;> rfl) trivial (by simp only [go_sem, hm, List.map_append]; simp [v0]) rfl rfl
   ·have hm := hm0
    rw [if_pos rfl] at hm
    rw [if_pos rfl] at a2
    have ci2 := ih r2 r3 (by omega) (by omega) (fun w hw => hwt w (hsub w hw))
    generalize nodeI k r2 r3 = t at *
    obtain ⟨t1, t2, t3⟩ := t
    simp only at *
    have hb3 : t3.length ≤ 1000002 := by have := hl2.2; revert this; split <;> intros <;> omega
    have g1 : t3.length + 1 ≤ 140737488355328 := by omega
    have g2 : (t3.length + 1) * 80 ≤ 140737488355328 := by omega
    have i2 : inR .i64 ((t3.length : Int) - 1) := by unfold inR; simp only; omega
    refine aJ ?_
    refine iK ci _ rfl rfl rfl ?_
    rintro ⟨⟩ _
    simp only [go_sem]
    have q0 := @i1; have q1 := @bI; refine jN ?_
    refine iK ci2 _ rfl rfl rfl ?_
    rintro ⟨⟩ _
    simp only [go_sem]
    have qH := aI @g1 (aI @g2 (aI @i2 @bI)); repeat' (with_reducible first | refine nY ?_ | (refine mX ?_; try simp only [go_sem, qH]) | refine kD ?_ | (apply rE [6,7,10] [] [0,1,2,3,4,5] [0,1,2,3,4,5] ((.c 6 [] [0,1,2,3,4] (.c 7 [8,9] [0,8,9] (.c 10 [] [] .n .n) .n) .n)) (by simp only [go_sem]; rfl) (by simp only [go_sem]; rfl) (by simp only [go_sem]; rfl) (by decide +kernel); (focus simp only [go_sem]; done)) | exact dR | refine bV (uX ?_) ?_ | refine bW (aX ?_) ?_ | refine bX (aX ?_) ?_ | exact bU | exact oH | exact uB | refine rD ?_ | refine aO ?_ | fail)
    exact aQ () trivial (by simp only [go_sem, hm] <;> rfl) trivial (by simp only [go_sem, hm, List.map_append]; simp [v0]) rfl rfl
  ·have hm : nodeI (k + 1) fs ns = (true, fs.tail.tail, ns ++ [⟨8, 0, 0, hd fs.tail, v0⟩]) := by rw [hmu]; simp [ho]
   have g1 : ns.length + 1 ≤ 140737488355328 := by omega
   have g2 : (ns.length + 1) * 80 ≤ 140737488355328 := by omega
   refine aJ ?_
   refine iK (oM fs.tail ns) _ rfl rfl rfl ?_
   rintro ⟨⟩ _
   simp only [go_sem]
   have qH := aI @g1 (aI @g2 @bI); repeat' (with_reducible first | refine nY ?_ | (refine mX ?_; try simp only [go_sem, qH]) | refine kD ?_ | (apply rE [6,7,10] [] [0,1,2,3,4,5] [0,1,2,3,4,5] ((.c 6 [] [0,1,2,3,4] (.c 7 [8,9] [0,8,9] (.c 10 [] [] .n .n) .n) .n)) (by simp only [go_sem]; rfl) (by simp only [go_sem]; rfl) (by simp only [go_sem]; rfl) (by decide +kernel); (focus simp only [go_sem]; done)) | exact dR | refine bV (uX ?_) ?_ | refine bW (aX ?_) ?_ | refine bX (aX ?_) ?_ | exact bU | exact oH | exact uB | refine rD ?_ | refine aO ?_ | fail)
   exact aQ () trivial (by simp only [go_sem, hm] <;> rfl) trivial (by simp only [go_sem, hm, List.map_append]; simp [v0]) rfl rfl
  ·have hm : nodeI (k + 1) fs ns = (true, fs.tail.tail, ns ++ [⟨9, 0, 0, hd fs.tail, v0⟩]) := by rw [hmu]; simp [ho]
   have g1 : ns.length + 1 ≤ 140737488355328 := by omega
   have g2 : (ns.length + 1) * 80 ≤ 140737488355328 := by omega
   refine aJ ?_
   refine iK (oM fs.tail ns) _ rfl rfl rfl ?_
   rintro ⟨⟩ _
   simp only [go_sem]
   have qH := aI @g1 (aI @g2 @bI); repeat' (with_reducible first | refine nY ?_ | (refine mX ?_; try simp only [go_sem, qH]) | refine kD ?_ | (apply rE [6,7,10] [] [0,1,2,3,4,5] [0,1,2,3,4,5] ((.c 6 [] [0,1,2,3,4] (.c 7 [8,9] [0,8,9] (.c 10 [] [] .n .n) .n) .n)) (by simp only [go_sem]; rfl) (by simp only [go_sem]; rfl) (by simp only [go_sem]; rfl) (by decide +kernel); (focus simp only [go_sem]; done)) | exact dR | refine bV (uX ?_) ?_ | refine bW (aX ?_) ?_ | refine bX (aX ?_) ?_ | exact bU | exact oH | exact uB | refine rD ?_ | refine aO ?_ | fail)
   exact aQ () trivial (by simp only [go_sem, hm] <;> rfl) trivial (by simp only [go_sem, hm, List.map_append]; simp [v0]) rfl rfl
end Go.Proofs.YtgpoopjfkplilaaGreatDoor
end
