/- Joined texts. -/
import Derived.Test.YtlmpmpddakhfnaaDoorZ01
import Derived.Test.YtlmpmpddakhfnaaDoorZ06
import Derived.Lib.LaidTab
import Derived.Test.YtlmpmpddakhfnaaDoorCards
import Derived.Test.YtlmpmpddakhfnaaDoorTie
import Derived.OpenShut
import Derived.WalkKit
import Derived.ProofKit
import Derived.Deep.DeepHandedRow
import Derived.Stop.LaidErr
import Derived.Test.YtlmpmpddakhfnaaDoorZ05
set_option linter.all false
section
set_option maxRecDepth 100000
set_option maxHeartbeats 4000000
namespace Go.Proofs.YtlmpmpddakhfnaaDoor
open Go Go.Sx Go.RowKit Go.Proofs
theorem rV : ((List.range 20).map fun i => Value.int .u64 ((10 ^ i : Nat) : Int)) = Lib.pow10Tab.map fun z => Value.int .u64 z := by
 unfold Lib.pow10Tab; rw [List.map_map]; rfl
theorem lV : Tryd.prog.globalNamed "internal/strconv.uint64pow10" = some 1 := by kernel_rfl
theorem a5Q {w : World} {X : List Nat} (h : tabOK w X) : Lib.TabIs Tryd.prog w "internal/strconv.uint64pow10" .u64 Lib.pow10Tab := by
 obtain ⟨_, ty, fz, h1⟩ := h _ (List.mem_cons_self ..)
 unfold Lib.TabIs World.var?
 rw [lV, Option.bind_some, h1]
 simp only [rV]
theorem a5R {w : World} (h : Lib.TabIs Tryd.prog w "internal/strconv.uint64pow10" .u64 Lib.pow10Tab) : tabOK w [] := by
 intro t ht
 obtain rfl := List.mem_singleton.1 ht
 refine ⟨by simp, ?_⟩
 unfold Lib.TabIs World.var? at h
 rw [lV, Option.bind_some] at h
 simp only [rV]
 split at h
 ·rename_i cs ty fz e
  cases h
  exact ⟨ty, fz, e⟩
 ·cases h
def itoaB (n : Int) : ByteArray := ⟨(Lib.itoa n).toArray⟩
theorem a4E (n : Int) (hn : inR .i64 n) : FnC Tryd.prog 78 [oi n] (os (itoaB n)) := by
 refine ⟨Tryd.call78, fun V w vs htab hm hargs => ?_⟩
 obtain ⟨hl, hv⟩ := hargs
 match vs, hl with
 | [y], _ =>
  obtain ⟨rfl, _⟩ := aG (hv 0 (oi n) y rfl rfl)
  refine (Any.strconv_Itoa Tryd.laysItoa n hn.1 hn.2 w (a5Q htab)).mono ?_
  rintro e w' ⟨rfl, k, ob', rfl⟩
  have hb : ∀ k' : Nat, k' < w.heap.size → (w.heap ++ ob')[k']? = w.heap[k']? := fun k' hk' => Array.getElem?_append_left hk'
  refine ⟨_, rfl, ⟨V, [], View.le.refl V, ?_, (fun b cs h1 h2 => by rw [h1] at h2; cases h2), ?_, List.nodup_nil, (fun b hb => by cases hb)⟩, ⟨rfl, rfl, rfl, ?_, hb⟩⟩
  ·intro b cs hbc
   obtain ⟨c, ty, fz, h1, h2⟩ := hm b cs hbc
   exact ⟨c, ty, fz, by rw [← h1]; exact hb b (Array.getElem?_eq_some_iff.1 h1).1, h2⟩
  ·refine ⟨[.string (itoaB n)], rfl, [[]], rfl, rfl, rfl, fun k a y s h1 h2 h3 => ?_⟩
   match k, h1, h2, h3 with
   | 0, rfl, rfl, rfl => exact ⟨rfl, [], .v _ rfl⟩
  ·show w.heap.size ≤ (w.heap ++ ob').size
   rw [Array.size_append]; omega
theorem qU (n : Int) (hn : inR .i64 n) : FnC Tryd.prog 51 [oi n] (os (itoaB n)) := by
 refine ent Tryd.func51 rfl Tryd.call51 rfl (fun C => ?_); simp only [go_sem, st0, Tryd.ntmps51]
 refine sQ (a4E n hn) ?_
 exact aA ⟨⟨_, rfl, by simp only [go_sem]⟩, trivial⟩
theorem wE (d : Int) (h0 : 0 ≤ d) (h9 : d < 10) : FnC Tryd.prog 81 [oi d] (.o (.d (.v (.int .u8 (48 + d))))) := by
 refine ent Tryd.func81 rfl Tryd.call81 rfl (fun C => ?_); simp only [go_sem, st0, Tryd.ntmps81]
 have g : decide (d < 10) = true := by simp [h9]
 have i1 : inR .i64 (48 + d) := by unfold inR; simp only; omega
 have i2 : inR .u8 (48 + d) := by unfold inR; simp only; omega
 have q0 := @g; have q1 := @i1; have q2 := @i2; refine oN ?_
 exact aA ⟨⟨_, rfl, by simp only [go_sem]⟩, trivial⟩
def lJ (u : Nat) : List UInt8 := if u = 0 then [] else Lib.decDigits u
theorem wF {u : Nat} (h : u ≠ 0) : lJ u = lJ (u / 10) ++ [UInt8.ofNat (48 + u % 10)] := by
 unfold lJ
 rw [if_neg h, Lib.decDigits]
 by_cases h1 : u < 10
 ·have e1 : u / 10 = 0 := by omega
  have e2 : u % 10 = u := by omega
  rw [dif_pos h1, e1, if_pos rfl, e2]; rfl
 ·rw [dif_neg h1, if_neg (by omega)]
theorem tV : ∀ (k u : Nat), u < 10 ^ k → (lJ u).length ≤ k
 | 0, u, h => by have : u = 0 := by simpa using h
                 subst this; simp [lJ]
 | k + 1, u, h => by
  by_cases h0 : u = 0
  ·subst h0; simp [lJ]
  ·rw [wF h0, List.length_append]
   have := tV k (u / 10) (by rw [Nat.pow_succ] at h; omega)
   simp; omega
theorem wG {n : Int} (h : n ≠ 0) : Lib.itoa n = if n < 0 then 45 :: lJ n.natAbs else lJ n.natAbs := by
 unfold Lib.itoa lJ
 have h1 : n.natAbs ≠ 0 := by omega
 rw [if_neg h1]
 split
 ·rfl
 ·have : n.toNat = n.natAbs := by omega
  rw [this]
theorem qV (n : Int) (hn : inR .i64 n) : FnC Tryd.prog 58 [oi n] (os (itoaB n)) := by
 refine ent Tryd.func58 rfl Tryd.call58 rfl (fun C => ?_); simp only [go_sem, st0, Tryd.ntmps58]
 have hn' := hn
 unfold inR at hn'
 simp only at hn'
 by_cases h0 : n = 0
 ·subst h0
  have g : decide ((0 : Int) = 0) = true := rfl
  have e : itoaB 0 = ⟨#[48]⟩ := by simp [itoaB, Lib.itoa, Lib.decDigits]
  have q0 := @g; refine jL ?_
  exact aA ⟨⟨_, rfl, by simp only [go_sem, e]⟩, trivial⟩
 have g : decide (n = 0) = false := by simp [h0]
 have q0 := @g; refine jL ?_
 have hL : (lJ n.natAbs).length ≤ 19 := tV 19 _ (by omega)
 have key : ∀ s : ByteArray, s.data.toList = lJ n.natAbs → (if n < 0 then (⟨#[45]⟩ : ByteArray) ++ s else s) = itoaB n := by
  intro s hs
  unfold itoaB
  rw [wG h0, ← hs]
  split
  ·apply ByteArray.ext; apply Array.ext'; simp
  ·rfl
 refine dG (α := Int × ByteArray) (fun x => [(0, oi x.1), (4, os x.2)]) (fun _ => []) (fun x => inR .i64 x.1 ∧ lJ x.1.natAbs ++ x.2.data.toList = lJ n.natAbs) (fun x => x.1.natAbs) (n, ⟨#[]⟩) (fun _ => ?_) ?_ ?_ (fun x hx => ?_)
 ·simp only [go_sem]
 ·simp only [go_sem]; simp
 ·exact ⟨hn, by simp⟩
 ·obtain ⟨m, s⟩ := x
  obtain ⟨hm, hs⟩ := hx
  simp only at hm hs
  have hm' := hm
  unfold inR at hm'
  simp only at hm'
  have hsl : s.size ≤ 19 := by
   have := congrArg List.length hs
   rw [List.length_append] at this
   have e : s.size = s.data.toList.length := rfl
   omega
  simp only [go_sem]
  by_cases h1 : m = 0
  ·subst h1
   have g1 : decide ((0 : Int) = 0) = true := rfl
   have hs' : s.data.toList = lJ n.natAbs := by simpa [lJ] using hs
   have hk := key s hs'
   by_cases h2 : n < 0
   ·have g2 : decide (n < 0) = true := by simp [h2]
    rw [if_pos h2] at hk
    have i1 : (⟨#[45]⟩ : ByteArray).size + s.size ≤ maxLen := by unfold maxLen; have : (⟨#[45]⟩ : ByteArray).size = 1 := rfl; omega
    have q0 := @g1; have q1 := @g2; have q2 := @i1; have q3 := @Bool.not_true; refine kU ?_
    exact aA ⟨⟨_, rfl, by simp only [go_sem, hk]⟩, trivial⟩
   ·have g2 : decide (n < 0) = false := by simp [h2]
    rw [if_neg h2] at hk
    have q0 := @g1; have q1 := @g2; have q2 := @Bool.not_true; refine oN ?_
    exact aA ⟨⟨_, rfl, by simp only [go_sem, hk]⟩, trivial⟩
  have g1 : decide (m = 0) = false := by simp [h1]
  have hu : m.natAbs ≠ 0 := by omega
  have q1 : (m.tdiv 10).natAbs = m.natAbs / 10 := by rw [Int.natAbs_tdiv]; rfl
  have q2 : (m.tmod 10).natAbs = m.natAbs % 10 := by rw [Int.natAbs_tmod]; rfl
  have i1 : inR .i64 (m.tdiv 10) := by unfold inR; simp only; omega
  have i3 : inR .i64 (0 - m.tmod 10) := by unfold inR; simp only; omega
  have hstep : ∀ d : Int, d = ((m.natAbs % 10 : Nat) : Int) → lJ (m.tdiv 10).natAbs ++ (jS [48 + d] ++ s).data.toList = lJ n.natAbs := by
   intro d hd
   rw [← hs, wF hu, q1, hd]
   have e : (48 + ((m.natAbs % 10 : Nat) : Int)).toNat = 48 + m.natAbs % 10 := by omega
   have e2 : (jS [48 + ((m.natAbs % 10 : Nat) : Int)] ++ s).data.toList = UInt8.ofNat (48 + m.natAbs % 10) :: s.data.toList := by
    unfold jS
    rw [List.map_cons, List.map_nil, e]
    generalize UInt8.ofNat (48 + m.natAbs % 10) = z
    simp
   rw [e2, List.append_assoc]; rfl
  have i4 : ∀ d : Int, (jS [48 + d]).size + s.size ≤ maxLen := fun d => by
   have : (jS [48 + d]).size = 1 := rfl
   unfold maxLen; omega
  by_cases h3 : m.tmod 10 < 0
  ·have g3 : decide (m.tmod 10 < 0) = true := by simp [h3]
   have q0 := @g1; have q1 := @g3; have q2 := @i1; have q3 := @i3; have q4 := @i4; have q5 := @Bool.not_false; refine a3U (wE (0 - m.tmod 10) (by omega) (by omega)) ?_
   refine aU (m.tdiv 10, jS [48 + (0 - m.tmod 10)] ++ s) ?_ ?_ ?_
   ·simp only [go_sem]; try simp
   ·exact ⟨i1, hstep _ (by omega)⟩
   ·simp only; omega
  ·have g3 : decide (m.tmod 10 < 0) = false := by simp [h3]
   have q0 := @g1; have q1 := @g3; have q2 := @i1; have q3 := @i3; have q4 := @i4; have q5 := @Bool.not_false; refine a3U (wE (m.tmod 10) (by omega) (by omega)) ?_
   refine aU (m.tdiv 10, jS [48 + m.tmod 10] ++ s) ?_ ?_ ?_
   ·simp only [go_sem]; try simp
   ·exact ⟨i1, hstep _ (by omega)⟩
   ·simp only; omega
def a9F (v : TValue) : ByteArray := if gT v then (if v.fKind = 1 then itoaB v.fInt else if v.fKind = 2 then v.fStr else ⟨#[45]⟩) else ⟨#[63]⟩
end Go.Proofs.YtlmpmpddakhfnaaDoor
end
section
namespace Go.Proofs.YtlmpmpddakhfnaaDoor
open Go Go.Sx Go.RowKit Go.Proofs
theorem a0M : (Tryd.prog.globals[1]?).map (·.type) = some 138 := by kernel_rfl
theorem vQ : Tryd.prog.cellsOf 138 = 20 := by kernel_rfl
theorem xL : Tryd.prog.cellsOf 129 = 1 := by kernel_rfl
theorem a2t : Tryd.prog.underlying 138 = some (.array 20 129) := by kernel_rfl
theorem a0N : Tryd.prog.underlying 129 = some (.int .u64) := by kernel_rfl
theorem zH : (Rows.laid_internal_strconv_uint64pow10 : DataW Unit) = Lib.tabData .u64 Lib.pow10Tab := by kernel_rfl
theorem a4D {W : World} (h : laidMetH Tryd.prog [("math/bits.deBruijn32tab", Rows.laid_math_bits_deBruijn32tab), ("math/bits.deBruijn64tab", Rows.laid_math_bits_deBruijn64tab), ("internal/strconv.uint64pow10", Rows.laid_internal_strconv_uint64pow10)] W) : tabOK W [] := by
 have h' : laidMet Tryd.prog [("math/bits.deBruijn32tab", Rows.laid_math_bits_deBruijn32tab), ("math/bits.deBruijn64tab", Rows.laid_math_bits_deBruijn64tab), ("internal/strconv.uint64pow10", Rows.laid_internal_strconv_uint64pow10)] W := h
 have h2 := h'.tail.tail
 rw [zH] at h2
 exact a5R (Lib.tabIs_of_head (rest := []) lV a0M a2t a0N xL vQ h2)
def a0O : DataW Unit → Array Value
 | .agg l => (l.map fun | .lit (.int k n) => Value.int k n | _ => .bool false).toArray
 | _ => #[]
def a5P (cs : Array Value) : Obj → Obj
 | .cells _ t frozen => .cells cs t frozen
 | o => o
noncomputable def qR (os : Os) : World :=
 { World.holding Tryd.prog os ⟨#[], #[], []⟩ with heap := (((World.holding Tryd.prog os ⟨#[], #[], []⟩).heap.modify 2 (a5P (a0O Rows.laid_math_bits_deBruijn32tab))).modify 3 (a5P (a0O Rows.laid_math_bits_deBruijn64tab))).modify 1 (a5P (a0O Rows.laid_internal_strconv_uint64pow10)) }
end Go.Proofs.YtlmpmpddakhfnaaDoor
end
section
namespace Go.Sx
open Go Go.RowKit
structure DoneB (V : View) (w : World) (b ty : Nat) (res : SV) (ds' : List D) (y : Value) (w' : World) : Prop where
 grown : w.grownBy w' (some b)
 out : ∃ V' S l', V.le V' ∧ Mod V' w' ∧ (∀ n cs, V' n = some cs → V n = none → w.heap.size ≤ n ∧ Unf w' n) ∧ rSV V' w' res y S ∧ S.Nodup ∧ (∀ n ∈ S, w.heap.size ≤ n ∧ n < w'.heap.size) ∧ w'.heap[b]? = some (.cells (List.toArray l') ty (0, 0)) ∧ cL [] V' (ds'.map At.d) l'
structure FnB (P : Program) (f ty : Nat) (ds : List D) (args : List SV) {α : Type} (Q : α → Prop) (res : α → SV) (ds' : α → List D) : Prop where
 enters : ∀ aS w, (callFunc f aS).run P w = .ok (.enter f aS) w
 calls : ∀ V w b l vs, tabOK w [b] → Mod V w → V b = none → b < w.heap.size → w.heap[b]? = some (.cells (List.toArray l) ty (0, 0)) → cL [] V (ds.map At.d) l → jA V args vs →
  Calls P f (Value.pointer (some ⟨b, 0, none⟩) :: vs).toArray w fun e w' => ∃ y a, e = .returned y ∧ Q a ∧ DoneB V w b ty (res a) (ds' a) y w'
section
variable {E : Env} {C : Ctx} {g : List Gh} {V : View} {st : St} {a : Act} {w : World}
theorem a2h (hr : Rel C g V st a w) : ∀ {aS bs : List At}, dN st.h aS bs → ∀ b ∈ (iI g aS bs).flatten, ∃ (id : Nat) (x : Gh) (ty sz : Nat) (rows : List (List D)) (lin : Bool), st.h[id]? = some (.row ty sz rows lin) ∧ g[id]? = some x ∧ b ∈ aH x (.row ty sz rows lin)
 | [], [], _, b, hb => by simp [iI] at hb
 | [], _ :: _, h, _, _ => by simp [dN] at h
 | _ :: _, [], h, _, _ => by simp [dN] at h
 | x :: aS, r :: bs, h, b, hb => by
  have hx : lK st.h x r := (gH h).2 0 x r rfl rfl
  have ht : dN st.h aS bs := by
   cases aS with
   | nil => cases bs with
    | nil => trivial
    | cons => simp [dN] at h
   | cons a2 aS => cases bs with
    | nil => simp [dN] at h
    | cons b2 bs => exact h.2
  simp only [iI, List.flatten_cons, List.mem_append] at hb
  rcases hb with hb | hb
  ·cases x with
   | s id => cases r with
    | w ty sz rows =>
     simp only [goS] at hb
     cases hg : g[id]? with
     | none => simp [hg] at hb
     | some gx =>
      simp only [hg] at hb
      simp only [lK] at hx
      split at hx
      ·rename_i ty' sz' rows' lin e
       obtain ⟨rfl, rfl, rfl, rfl⟩ := hx
       exact ⟨id, gx, _, _, _, _, aB e (by simp), hg, by simpa [aH] using hb⟩
      ·exact hx.elim
    | m ty sz rows =>
     simp only [goS] at hb
     cases hg : g[id]? with
     | none => simp [hg] at hb
     | some gx =>
      simp only [hg] at hb
      simp only [lK] at hx
      split at hx
      ·rename_i ty' sz' rows' lin e
       obtain ⟨rfl, rfl, rfl⟩ := hx
       exact ⟨id, gx, _, _, _, _, aB e (by simp), hg, by simp only [aH]; exact List.mem_append.2 (.inl hb)⟩
      ·exact hx.elim
    | _ => simp [goS] at hb
   | _ => simp [goS] at hb
  ·exact a2h hr ht b hb
theorem wZ (hT : TyOK E.P E.T) {pb ty : Nat} {ds' : List D} (hX : C.X = [pb]) (hr : Rel C g V st a w) {fn : Func} {rs : List ResultVar} (hf : fn.results = rs.toArray) {res : SV} (h : RetOK E st rs res) (h0 : bK st.h 0 = .pin pb ty ds') :
    ∃ y, (results fn a.tmps).run E.P w = .ok y w ∧ DoneB C.V0 C.w0 pb ty res ds' y w := by
 have hi0 := aB h0 (by simp)
 obtain ⟨x0, hx0⟩ : ∃ x0, g[0]? = some x0 := ⟨_, List.getElem?_eq_getElem (by rw [hr.hp.glen]; exact (List.getElem?_eq_some_iff.1 hi0).1)⟩
 obtain ⟨p1, l', p2, p3⟩ := hr.hp.hb 0 _ x0 hi0 hx0
 have pr : V pb = none := hr.hp.rt 0 _ x0 hi0 hx0 pb (by simp [aK, p1])
 obtain ⟨⟨l, h1, h2, h3, h4⟩, hone⟩ := h
 obtain ⟨vs, ls, f1, f2, f3, f4, f5⟩ := lW hT hr h1
 have f1' : (rs.mapM (rvM a)).run E.P w = .ok vs w := by
  rw [← f1]
  congr 2
 refine ⟨_, kG hf f1', ⟨hr.fr.os, hr.fr.tape, hr.fr.output, hr.fr.size, fun k hk hne => hr.fr.block k hk (by rw [hX]; simpa using fun e => hne (by rw [e]))⟩, V, (iI g (l.flatMap (·.2)) ((lL res).flatMap (·.2))).flatten, l', hr.vw.le, hr.mod, fun b cs q1 q2 => ?_, ⟨ls.flatten, ?_, ?_⟩, iB hr h3 h4, fun b hb => ?_, p2, p3⟩
 ·have := hr.vw.fresh b cs q1 q2
  rw [hX] at this
  refine ⟨?_, hr.vw.unf b cs q1 q2⟩
  rcases this with h | h
  ·exact h
  ·simp only [List.mem_singleton] at h
   subst h
   rw [pr] at q1; cases q1
 ·
  have hlen : l.length = (lL res).length := by simpa using congrArg List.length h2
  have hget : ∀ (k : Nat) (b : Bool) (c : List At), (lL res)[k]? = some (b, c) → ∃ c', l[k]? = some (b, c') ∧ c'.length = c.length := fun k b c hk => by
   have := congrArg (fun z => z[k]?) h2
   simp only [List.getElem?_map, hk, Option.map_some] at this
   cases hl : l[k]? with
   | none => rw [hl] at this; cases this
   | some x =>
    rw [hl] at this
    simp only [Option.map_some, Option.some.injEq, Prod.mk.injEq] at this
    exact ⟨x.2, by rw [← this.1], this.2⟩
  have one : ∀ (b : Bool) (c : List At), lL res = [(b, c)] → ∃ v m, vs = [v] ∧ ls = [m] ∧ (if b then v = .agg m.toArray else m = [v]) := fun b c e => by
   obtain ⟨c', hc', _⟩ := hget 0 b c (by rw [e]; rfl)
   rw [e] at hlen
   match vs, f2.trans hlen, ls, f3.trans hlen with
   | [v], _, [m], _ => exact ⟨v, m, rfl, rfl, (f4 0 b c' m v hc' rfl rfl).1⟩
  cases res with
  | o x =>
   obtain ⟨v, m, rfl, rfl, e⟩ := one false [x] rfl
   simpa [shapeOf] using e
  | g cs =>
   obtain ⟨v, m, rfl, rfl, e⟩ := one true cs rfl
   simpa [shapeOf] using e
  | t cs =>
   refine ⟨ls, f3.trans hlen, rfl, fun k b c m hk hm => ?_, vs, ?_, f2.trans hlen, fun k b c m v hk hm hv => ?_⟩
   ·obtain ⟨c', hc', e⟩ := hget k b c hk
    have hv : k < vs.length := by rw [f2, ← f3]; exact (List.getElem?_eq_some_iff.1 hm).1
    have := (f4 k b c' m _ hc' hm (List.getElem?_eq_getElem hv)).2.1
    omega
   ·have hne : vs.length ≠ 1 := by rw [f2, hlen]; exact hone
    match vs, hne with
    | [], _ => rfl
    | v :: v' :: r, _ => rfl
   ·obtain ⟨c', hc', e⟩ := hget k b c hk
    exact (f4 k b c' m v hc' hm hv).1
 ·have hl := gH h3
  refine ⟨iI g (l.flatMap (·.2)) ((lL res).flatMap (·.2)), ?_, ?_, rfl, fun k x y s e1 e2 e3 => ?_⟩
  ·rw [f5.1, hl.1, jO]
  ·rw [oZ g hl.1, hl.1, jO]
  ·rw [jO] at e1
   have hk : k < (l.flatMap (·.2)).length := by rw [hl.1]; exact (List.getElem?_eq_some_iff.1 e1).1
   have e0 : (l.flatMap (·.2))[k]? = some ((l.flatMap (·.2))[k]) := List.getElem?_eq_getElem hk
   rw [pE g e0 e1] at e3
   cases e3
   exact xN hr (hl.2 k _ x e0 e1) (f5.2 k _ y e0 e2)
 ·obtain ⟨id, x, rty, rsz, rr, rl, e1, e2, e3⟩ := a2h hr h3 b hb
  have := hr.hp.lo id _ x e1 e2 b e3
  refine ⟨?_, this.2⟩
  rw [hX] at this
  rcases this.1 with h | h
  ·exact h
  ·simp only [List.mem_singleton] at h
   subst h
   have hne : id ≠ 0 := fun e => by rw [e, hi0] at e1; cases e1
   exact (hr.hp.dj id 0 _ _ x x0 hne e1 e2 hi0 hx0 b e3 (by simp [aH, p1])).elim
end
def a6I (E : Env) (rs : List ResultVar) (b ty : Nat) {α : Type} (Q : α → Prop) (res : α → SV) (ds' : α → List D) : Ex → St → Prop
 | .exit _, _ => False
 | _, st => ∃ st' a, Sees E.C st st' ∧ RetOK E st' rs (res a) ∧ Q a ∧ bK st'.h 0 = .pin b ty (ds' a)
theorem aN {E : Env} {rs : List ResultVar} {b ty : Nat} {α : Type} {Q : α → Prop} {res : α → SV} {ds' : α → List D} {st : St} (a : α) (h : RetOK E st rs (res a)) (hq : Q a) (hp : bK st.h 0 = .pin b ty (ds' a)) : a6I E rs b ty Q res ds' .ret st := ⟨st, a, Sees.refl _ _, h, hq, hp⟩
def stB (b ty : Nat) (ds : List D) (args : List SV) (n : Nat) : St := ⟨.o (.p 0 0) :: (args ++ List.replicate (n - 1 - args.length) (.t [])), [.pin b ty ds]⟩
theorem FnB.of_wp {P : Program} {T : Nat → Ty} {eqk : Nat → List Nat} (hT : TyOK P T) {f : Nat} {fn : Func} {c : Code} {rs : List ResultVar} {ty : Nat} {ds : List D} {args : List SV} {α : Type} {Q : α → Prop} {res : α → SV} {ds' : α → List D}
    (hf : P.funcs[f]? = some fn) (hb : fn.body = some c) (hcall : ∀ aS w, (callFunc f aS).run P w = .ok (.enter f aS) w) (hres : fn.results = rs.toArray)
    (h : ∀ (C : Ctx) (b : Nat), C.X = [b] → WP P C c (aR P C [] (a6I ⟨P, T, C, eqk⟩ rs b ty Q res ds')) (stB b ty ds args fn.ntmps)) : FnB P f ty ds args Q res ds' := by
 refine ⟨hcall, fun V w b l vs htab hm hVb hlt hheap hcl ha => ?_⟩
 let C : Ctx := ⟨w, [b], V, htab⟩
 refine calls_of_wp hf hb ?_
 let x : Gh := ⟨some b, undef, [], []⟩
 have hr : Rel C [x] V (stB b ty ds args fn.ntmps) { tmps := (Value.pointer (some ⟨b, 0, none⟩) :: vs).toArray ++ Array.replicate (fn.ntmps - (Value.pointer (some ⟨b, 0, none⟩) :: vs).toArray.size) undef, defers := [] } w := by
  refine ⟨⟨by simp [stB, ha.1]; omega, fun i s y h1 h2 => ?_, rfl⟩, ⟨rfl, ?_, ?_, ?_, ?_, ?_⟩, hm,
   ⟨rfl, rfl, rfl, Nat.le_refl _, fun _ _ _ => rfl⟩, ⟨View.le.refl V, (fun b cs h1 h2 => by have h2' : V b = none := h2; rw [h1] at h2'; cases h2'), (fun b cs h1 h2 => by have h2' : V b = none := h2; rw [h1] at h2'; cases h2')⟩⟩
  ·match i with
   | 0 =>
    simp [stB] at h1
    rw [Array.getElem?_append_left (by simp)] at h2
    simp at h2
    subst h1; subst h2
    exact ⟨x, b, rfl, rfl, rfl⟩
   | i + 1 =>
    simp only [stB, List.getElem?_cons_succ] at h1
    have h2' : (vs.toArray ++ Array.replicate (fn.ntmps - (vs.length + 1)) undef)[i]? = some y := by
     simp only [List.size_toArray, List.length_cons] at h2
     rw [← h2]
     rw [Array.getElem?_append, Array.getElem?_append]
     simp
    rw [List.getElem?_append] at h1
    rw [Array.getElem?_append] at h2'
    simp only [List.size_toArray, ha.1] at h2'
    split at h1
    ·rw [if_pos ‹_›] at h2'
     exact (ha.2 i s y h1 (by simpa using h2')).mono (fun j z hz => by simp at hz) (View.le.refl V)
    ·rw [if_neg ‹_›] at h2'
     rw [List.getElem?_replicate] at h1
     rw [Array.getElem?_replicate] at h2'
     split at h1
     ·split at h2'
      ·cases h1; cases h2'; exact eU _ _
      ·cases h2'
     ·cases h1
  all_goals
   have key : ∀ (i : Nat) (c : HB) (z : Gh), (stB b ty ds args fn.ntmps).h[i]? = some c → [x][i]? = some z → i = 0 ∧ c = .pin b ty ds ∧ z = x := fun i c z h1 h2 => by
    match i with
    | 0 => simp [stB] at h1 h2; exact ⟨rfl, h1.symm, h2.symm⟩
    | i + 1 => simp at h2
  ·intro i c z h1 h2
   obtain ⟨rfl, rfl, rfl⟩ := key i c z h1 h2
   exact ⟨rfl, l, hheap, hcl⟩
  ·intro i c z h1 h2
   obtain ⟨rfl, rfl, rfl⟩ := key i c z h1 h2
   simp [aH, x]
  ·intro i j c c' z z' hij h1 h2 h3 h4
   obtain ⟨rfl, _, _⟩ := key i c z h1 h2
   obtain ⟨rfl, _, _⟩ := key j c' z' h3 h4
   exact absurd rfl hij
  ·intro i c z h1 h2 n hn
   obtain ⟨rfl, rfl, rfl⟩ := key i c z h1 h2
   simp [aH, x] at hn
   subst hn
   exact ⟨.inr (by simp [C]), hlt⟩
  ·intro i c z h1 h2 n hn
   obtain ⟨rfl, rfl, rfl⟩ := key i c z h1 h2
   simp [aK, x] at hn
   subst hn
   exact hVb
 refine wp_mono (h C b rfl [x] V _ w hr) fun e a' w' q => ?_
 cases e with
 | normal =>
  obtain ⟨g, V', st', hr', s, a0, hs, hret, hq, hp⟩ := q
  obtain ⟨g2, V2, hr2⟩ := hs g V' a' w' hr'
  obtain ⟨y, hy, hd⟩ := wZ (E := ⟨P, T, C, eqk⟩) hT rfl hr2 hres hret hp
  exact ⟨hr'.sl.defers, y, hy, y, a0, rfl, hq, hd⟩
 | ret =>
  obtain ⟨g, V', st', hr', s, a0, hs, hret, hq, hp⟩ := q
  obtain ⟨g2, V2, hr2⟩ := hs g V' a' w' hr'
  obtain ⟨y, hy, hd⟩ := wZ (E := ⟨P, T, C, eqk⟩) hT rfl hr2 hres hret hp
  exact ⟨hr'.sl.defers, y, hy, y, a0, rfl, hq, hd⟩
 | exit id => obtain ⟨g, V', st', hr', q⟩ := q; exact q.elim
 | goto l => exact q.elim
 | panic ch => exact q.elim
 | outgrown => exact q.elim
def a1C (ty : Nat) (ds : List D) : HB → Prop
 | .box ty' cs => ty' = ty ∧ cs = ds.map At.d
 | .pin _ ty' ds0 => ty' = ty ∧ ds0 = ds
 | _ => False
def reD (ds' : List D) : HB → HB
 | .box ty _ => .box ty (ds'.map At.d)
 | .pin b ty _ => .pin b ty ds'
 | b => b
theorem a5D {g : List Gh} {V : View} {w : World} {x : Gh} {B : HB} {ty : Nat} {ds : List D} (h : HBok g V w x B) (hB : a1C ty ds B) : ∃ b l, x.blk = some b ∧ aH x B = [b] ∧ aK x B = [b] ∧ w.heap[b]? = some (.cells (List.toArray l) ty (0, 0)) ∧ cL [] V (ds.map At.d) l ∧
    ∀ (V' : View) (w' : World) (ds' : List D) (l' : List Value), w'.heap[b]? = some (.cells (List.toArray l') ty (0, 0)) → cL [] V' (ds'.map At.d) l' → (∀ g', HBok g' V' w' x (reD ds' B)) ∧ aH x (reD ds' B) = [b] ∧ aK x (reD ds' B) = [b] := by
 cases B with
 | box ty' cs =>
  obtain ⟨rfl, rfl⟩ := hB
  obtain ⟨b, l, h1, h2, h3⟩ := h
  exact ⟨b, l, h1, by simp [aH, h1], by simp [aK, h1], h2, cLd h3, fun V' w' ds' l' e1 e2 => ⟨fun g' => ⟨b, l', h1, e1, cLd e2⟩, by simp [reD, aH, h1], by simp [reD, aK, h1]⟩⟩
 | pin pb ty' ds0 =>
  obtain ⟨rfl, rfl⟩ := hB
  obtain ⟨h1, l, h2, h3⟩ := h
  exact ⟨pb, l, h1, by simp [aH, h1], by simp [aK, h1], h2, h3, fun V' w' ds' l' e1 e2 => ⟨fun g' => ⟨h1, l', e1, e2⟩, by simp [reD, aH, h1], by simp [reD, aK, h1]⟩⟩
 | _ => exact hB.elim
theorem CallS.block {E : Env} {f ty id : Nat} {ds : List D} {args' rest : List SV} {α : Type} {Q : α → Prop} {res : α → SV} {ds' : α → List D} {st : St} {K : St → SV → Prop} (h : FnB E.P f ty ds args' Q res ds')
    (hid : a1C ty ds (bK st.h id)) (he : rest.map (dH st.h) = args') (hfree : args'.all bJ = true)
    (k : ∀ a, Q a → K ⟨st.t, setH st.h id (reD (ds' a) (bK st.h id)) ++ adH (res a).all⟩ (adS (setH st.h id (reD (ds' a) (bK st.h id))).length (res a))) :
    CallS E f (.o (.p id 0) :: rest) st K := by
 refine ⟨h.enters, fun g V a w vs hr hlen hargs => ?_⟩
 have hi : st.h[id]? = some (bK st.h id) := aB rfl (fun e => by rw [e] at hid; exact hid)
 match vs, hlen, hargs with
 | y :: vs, hlen, hargs =>
  obtain ⟨x, b0, hx, hxb, rfl⟩ := hargs 0 _ y rfl rfl
  have hok := hr.hp.hb id _ x hi hx
  obtain ⟨b, l, q1, q2, q3, q4, q5, q6⟩ := a5D hok hid
  have e0 : b0 = b := by rw [hxb] at q1; exact Option.some.inj q1
  subst e0
  have hVb : V b0 = none := hr.hp.rt id _ x hi hx b0 (by rw [q3]; simp)
  have hlo := hr.hp.lo id _ x hi hx b0 (by rw [q2]; simp)
  have hc : jA V args' vs := by
   subst he
   refine ⟨by simpa using hlen, fun i s y h1 h2 => ?_⟩
   have hs := List.all_eq_true.1 hfree s (List.mem_of_getElem? h1)
   rw [List.getElem?_map] at h1
   cases hk : rest[i]? with
   | none => rw [hk] at h1; cases h1
   | some s0 =>
    rw [hk] at h1
    cases h1
    exact gP (iJ hr (hargs (i + 1) s0 y (by simpa using hk) (by simpa using h2))) hs
  refine (h.calls V w b0 l vs (hr.fr.tab fun k hk => by rw [List.mem_singleton.1 hk]; exact hlo.1) hr.mod hVb hlo.2 q4 q5 hc).mono ?_
  rintro e w' ⟨y, a0, rfl, hQ, hgrown, V', S, l', hv, hm, hnew, ⟨lr, hshape, Ss, r1, r2, r3, r4⟩, hnd, hblk, hheap, hcl'⟩
  have hV'b : V' b0 = none := by
   cases hc : V' b0 with
   | none => rfl
   | some cs => have := (hnew b0 cs hc hVb).1; omega
  have hsz1 : (w'.setRow b0 l.toArray).heap.size = w'.heap.size := by simp [World.setRow]
  have hbel : Below w.heap.size w (w'.setRow b0 l.toArray) := ⟨hgrown.os, hgrown.tape, hgrown.output, by rw [hsz1]; exact hgrown.size, fun n hn => by
   by_cases e : n = b0
   ·subst e
    rw [setRow_heap w' n l'.toArray l.toArray ty (0, 0) hheap, q4]
   ·rw [setRow_other w' b0 n _ e]
    exact hgrown.block n hn fun h => e (Option.some.inj h)⟩
  have hm1 : Mod V' (w'.setRow b0 l.toArray) := fun n cs hn => by
   obtain ⟨c, ty', fz, e1, e2⟩ := hm n cs hn
   have hne : n ≠ b0 := fun e => by rw [e, hV'b] at hn; cases hn
   exact ⟨c, ty', fz, by rw [setRow_other w' b0 n _ hne]; exact e1, e2⟩
  have hr1 : Rel E.C g V' st a (w'.setRow b0 l.toArray) := hr.later hv hm1 hbel (fun n cs h1 h2 => by
   have := hnew n cs h1 h2
   have hne : n ≠ b0 := fun e => by rw [e, hV'b] at h1; cases h1
   obtain ⟨c, ty', e⟩ := this.2
   exact ⟨this.1, c, ty', by rw [setRow_other w' b0 n _ hne]; exact e⟩)
  obtain ⟨u1, u2, u3⟩ := q6 V' w' (ds' a0) l' hheap hcl'
  have hr2 := hr1.turnRow id (b' := reD (ds' a0) (bK st.h id)) (x' := x) hi hx (w' := w') rfl rfl rfl u1 (by rw [u2]; simp) (fun n hn => .inl (by rw [u2] at hn; rw [q2]; exact hn))
   (fun n hn => by rw [u3] at hn; simp only [List.mem_singleton] at hn; subst hn; exact hV'b)
   ⟨rfl, rfl, rfl, by rw [hsz1]; exact Nat.le_refl _, fun n hn hne => (setRow_other w' b0 n _ (fun e => hne (by rw [hxb, e]))).symm⟩ (fun n hn => by rw [q3]; rw [hxb] at hn; cases hn; simp)
  rw [← bD] at hr2
  have hgx : g.set id x = g := by
   apply List.ext_getElem?
   intro i
   rw [List.getElem?_set]
   split
   ·rename_i e
    subst e
    split
    ·exact hx.symm
    ·rename_i hn
     rw [List.getElem?_eq_none (by omega)]
   ·rfl
  rw [hgx] at hr2
  subst r3
  obtain ⟨g', h1, h2, h3⟩ := pI (cs := (res a0).all) hr2 r1 r2 r4 hnd (fun n hn => ⟨.inl (Nat.le_trans hr.fr.size (hblk n hn).1), (hblk n hn).2, fun i hb' z e1 e2 hm' => by
   have hlt : n < w.heap.size := by
    simp only [bD, List.getElem?_set] at e1
    split at e1
    ·rename_i e
     subst e
     split at e1
     ·cases e1
      rw [hx] at e2
      cases e2
      rw [u2] at hm'
      simp only [List.mem_singleton] at hm'
      subst hm'
      exact hlo.2
     ·cases e1
    ·exact (hr.hp.lo i hb' z e1 e2 n hm').2
   have := (hblk n hn).1
   omega⟩)
  refine ⟨y, g', V', _, _, rfl, h1, ?_, k a0 hQ⟩
  generalize setH st.h id (reD (ds' a0) (bK st.h id)) = hh at *
  generalize res a0 = res at *
  cases res with
  | o x =>
   have hl : lr = [y] := hshape
   subst hl
   simp only [SV.all] at h3
   simp only [adS]
   have hlen1 : (adA hh.length [x]).length = 1 := iZ _ _
   match he' : adA hh.length [x], hlen1 with
   | [z], _ =>
    rw [he'] at h3
    exact h3.2 0 z y rfl rfl
  | g cs => exact ⟨lr, hshape, h3⟩
  | t cs =>
   obtain ⟨ls, e1, e2, e3, ys, e4, e5, e6⟩ := hshape
   subst e2
   refine ⟨ys, e4, by rw [e5, fT], fun i b c v hi hv' => ?_⟩
   have hlt : i < ls.length := by rw [e1, ← fT hh.length cs]; exact (List.getElem?_eq_some_iff.1 hi).1
   have hm' : ls[i]? = some ls[i] := List.getElem?_eq_getElem hlt
   obtain ⟨⟨c0, hc0⟩, hcc⟩ := mW hh.length cs ls e1 e3 h3 i b c _ hi hm'
   have := e6 i b c0 _ v hc0 hm' hv'
   cases b with
   | true => simp only [if_true] at this ⊢; exact ⟨_, this, hcc⟩
   | false => simp only [Bool.false_eq_true, if_false] at this ⊢; rw [← this]; exact hcc
structure FnN (P : Program) (f ty : Nat) (args : List SV) {α : Type} (Q : α → Prop) (ds' : α → List D) : Prop where
 enters : ∀ aS w, (callFunc f aS).run P w = .ok (.enter f aS) w
 calls : ∀ V w vs, tabOK w [] → Mod V w → jA V args vs → Calls P f vs.toArray w fun e w' => ∃ a b l V', e = .returned (.pointer (some ⟨b, 0, none⟩)) ∧ Q a ∧ V.le V' ∧ Mod V' w' ∧ (∀ n cs, V' n = some cs → V n = none → w.heap.size ≤ n ∧ Unf w' n) ∧ w.heap.size ≤ b ∧ b < w'.heap.size ∧ V' b = none ∧ w'.heap[b]? = some (.cells (List.toArray l) ty (0, 0)) ∧ cL [] V' ((ds' a).map At.d) l ∧ Below w.heap.size w w'
def a6J (E : Env) (rs : List ResultVar) (ty : Nat) {α : Type} (Q : α → Prop) (ds' : α → List D) : Ex → St → Prop
 | .exit _, _ => False
 | _, st => ∃ a id, Q a ∧ retVs E st rs = some [(false, [.p id 0])] ∧ bK st.h id = .box ty ((ds' a).map At.d)
theorem FnN.of_wp {P : Program} {T : Nat → Ty} {eqk : Nat → List Nat} (hT : TyOK P T) {f : Nat} {fn : Func} {c : Code} {rs : List ResultVar} {ty : Nat} {args : List SV} {α : Type} {Q : α → Prop} {ds' : α → List D}
    (hf : P.funcs[f]? = some fn) (hb : fn.body = some c) (hcall : ∀ aS w, (callFunc f aS).run P w = .ok (.enter f aS) w) (hres : fn.results = rs.toArray)
    (h : ∀ C : Ctx, C.X = [] → WP P C c (aR P C [] (a6J ⟨P, T, C, eqk⟩ rs ty Q ds')) (st0 args fn.ntmps)) : FnN P f ty args Q ds' := by
 refine ⟨hcall, fun V w vs htab hm ha => ?_⟩
 let C : Ctx := ⟨w, [], V, htab⟩
 refine calls_of_wp hf hb ?_
 have hr : Rel C [] V (st0 args fn.ntmps) { tmps := vs.toArray ++ Array.replicate (fn.ntmps - vs.toArray.size) undef, defers := [] } w := by
  refine ⟨⟨by simp [st0, ha.1], fun i s y h1 h2 => ?_, rfl⟩, ⟨rfl, fun i b x h => by simp [st0] at h, fun i b x h => by simp [st0] at h, fun i j b b' x x' _ h => by simp [st0] at h, fun i b x h => by simp [st0] at h, fun i b x h => by simp [st0] at h⟩, hm,
   ⟨rfl, rfl, rfl, Nat.le_refl _, fun _ _ _ => rfl⟩, ⟨View.le.refl V, (fun b cs h1 h2 => by have h2' : V b = none := h2; rw [h1] at h2'; cases h2'), (fun b cs h1 h2 => by have h2' : V b = none := h2; rw [h1] at h2'; cases h2')⟩⟩
  simp only [st0] at h1
  rw [List.getElem?_append] at h1
  rw [Array.getElem?_append] at h2
  simp only [List.size_toArray, ha.1] at h2
  split at h1
  ·rw [if_pos ‹_›] at h2
   exact ha.2 i s y h1 (by simpa using h2)
  ·rw [if_neg ‹_›] at h2
   rw [List.getElem?_replicate] at h1
   rw [Array.getElem?_replicate] at h2
   split at h1
   ·rw [if_pos ‹_›] at h2
    cases h1; cases h2; exact eU _ _
   ·cases h1
 refine wp_mono (h C rfl [] V _ w hr) fun e a' w' q => ?_
 have fin : ∀ (g : List Gh) (V' : View) (st : St), Rel C g V' st a' w' → (∃ a id, Q a ∧ retVs ⟨P, T, C, eqk⟩ st rs = some [(false, [.p id 0])] ∧ bK st.h id = .box ty ((ds' a).map At.d)) →
     ∃ y, (results fn a'.tmps).run P w' = .ok y w' ∧ ∃ a b l V', Ending.returned y = .returned (.pointer (some ⟨b, 0, none⟩)) ∧ Q a ∧ V.le V' ∧ Mod V' w' ∧ (∀ n cs, V' n = some cs → V n = none → w.heap.size ≤ n ∧ Unf w' n) ∧ w.heap.size ≤ b ∧ b < w'.heap.size ∧ V' b = none ∧ w'.heap[b]? = some (.cells (List.toArray l) ty (0, 0)) ∧ cL [] V' ((ds' a).map At.d) l ∧ Below w.heap.size w w' := by
  rintro g V' st hr' ⟨a, id, hq, h1, h2⟩
  obtain ⟨vs', ls, f1, f2, f3, f4, f5⟩ := lW (E := ⟨P, T, C, eqk⟩) hT hr' h1
  have f1' : (rs.mapM (rvM a')).run P w' = .ok vs' w' := by
   rw [← f1]
   congr 2
  match vs', ls, f2, f3 with
  | [v], [m], _, _ =>
   have hv := f4 0 false [.p id 0] m v rfl rfl rfl
   simp only [Bool.false_eq_true, if_false] at hv
   obtain ⟨hv1, hv2⟩ := hv
   have hv2 := hv2
   subst hv1
   have hp := f5.2 0 (.p id 0) v rfl rfl
   obtain ⟨x, b, hx, hxb, rfl⟩ := hp
   have hi := aB h2 (by simp)
   obtain ⟨b', l, e1, e2, e3⟩ := hr'.hp.hb id _ x hi hx
   have e0 : b = b' := by rw [hxb] at e1; exact Option.some.inj e1
   subst e0
   have hlo := hr'.hp.lo id _ x hi hx b (by simp [aH, hxb])
   have hrt := hr'.hp.rt id _ x hi hx b (by simp [aK, hxb])
   refine ⟨_, kG hres f1', a, b, l, V', rfl, hq, hr'.vw.le, hr'.mod, fun n cs q1 q2 => ⟨by have := hr'.vw.fresh n cs q1 q2; simpa [C] using this, hr'.vw.unf n cs q1 q2⟩, by have := hlo.1; simpa [C] using this, hlo.2, hrt, e2, cLd e3, ⟨hr'.fr.os, hr'.fr.tape, hr'.fr.output, hr'.fr.size, fun k hk => hr'.fr.block k hk (by simp [C])⟩⟩
 cases e with
 | normal =>
  obtain ⟨g, V', st', hr', hret⟩ := q
  obtain ⟨y, hy, hd⟩ := fin g V' st' hr' hret
  exact ⟨hr'.sl.defers, y, hy, hd⟩
 | ret =>
  obtain ⟨g, V', st', hr', hret⟩ := q
  obtain ⟨y, hy, hd⟩ := fin g V' st' hr' hret
  exact ⟨hr'.sl.defers, y, hy, hd⟩
 | exit id => obtain ⟨g, V', st', hr', q⟩ := q; exact q.elim
 | goto l => exact q.elim
 | panic ch => exact q.elim
 | outgrown => exact q.elim
theorem CallS.newBlk {E : Env} {f ty : Nat} {args args' : List SV} {α : Type} {Q : α → Prop} {ds' : α → List D} {st : St} {K : St → SV → Prop} (h : FnN E.P f ty args' Q ds') (he : args.map (dH st.h) = args') (hfree : args'.all bJ = true)
    (k : ∀ a, Q a → K ⟨st.t, st.h ++ [.box ty ((ds' a).map At.d)]⟩ (.o (.p st.h.length 0))) : CallS E f args st K := by
 refine ⟨h.enters, fun g V a w vs hr hlen hargs => ?_⟩
 subst he
 have hc : jA V (args.map (dH st.h)) vs := by
  refine ⟨by simp [hlen], fun i s y h1 h2 => ?_⟩
  have hs := List.all_eq_true.1 hfree s (List.mem_of_getElem? h1)
  rw [List.getElem?_map] at h1
  cases hk : args[i]? with
  | none => rw [hk] at h1; cases h1
  | some s0 =>
   rw [hk] at h1
   cases h1
   exact gP (iJ hr (hargs i s0 y hk h2)) hs
 refine (h.calls V w vs hr.tab hr.mod hc).mono ?_
 rintro e w' ⟨a0, b, l, V', rfl, hQ, hv, hm, hnew, hge, hlt, hVb, hheap, hcl, hbel⟩
 have hr1 := hr.later hv hm hbel hnew
 let x : Gh := ⟨some b, undef, [], []⟩
 refine ⟨_, g ++ [x], V', ⟨st.t, st.h ++ [.box ty ((ds' a0).map At.d)]⟩, .o (.p st.h.length 0), rfl, ⟨hr1.sl.mono (GLe.push _ _) (View.le.refl V'), hr1.hp.push (b := .box ty ((ds' a0).map At.d)) (x := x) ⟨b, l, rfl, hheap, cLd hcl⟩ ?_ ?_ ?_ ?_, hr1.mod, hr1.fr, hr1.vw⟩, ⟨x, b, ?_, rfl, rfl⟩, k a0 hQ⟩
 ·simp [aH, x]
 ·intro n hn
  simp [aH, x] at hn
  subst hn
  exact ⟨.inl (Nat.le_trans hr.fr.size hge), hlt⟩
 ·intro i b' x' h1 h2 n hn hm'
  simp [aH, x] at hm'
  subst hm'
  have := (hr.hp.lo i b' x' h1 h2 n hn).2
  omega
 ·intro n hn
  simp [aK, x] at hn
  subst hn
  exact hVb
 ·rw [List.getElem?_append_right (by rw [hr.hp.glen]; exact Nat.le_refl _), hr.hp.glen]; simp
theorem a0u {E : Env} {rs : List ResultVar} {ty : Nat} {α : Type} {Q : α → Prop} {ds' : α → List D} {st : St} (a : α) (id : Nat) (hq : Q a) (h1 : retVs E st rs = some [(false, [.p id 0])]) (h2 : bK st.h id = .box ty ((ds' a).map At.d)) : a6J E rs ty Q ds' .ret st := ⟨a, id, hq, h1, h2⟩
structure FnX (P : Program) (f : Nat) (args : List SV) {α : Type} (Q : α → Prop) (res : α → SV) : Prop where
 enters : ∀ aS w, (callFunc f aS).run P w = .ok (.enter f aS) w
 calls : ∀ V w vs, tabOK w [] → Mod V w → jA V args vs → Calls P f vs.toArray w fun e w' => ∃ y a, e = .returned y ∧ Q a ∧ Done V w (res a) y w'
def a6K (E : Env) (rs : List ResultVar) {α : Type} (Q : α → Prop) (res : α → SV) : Ex → St → Prop
 | .exit _, _ => False
 | _, st => ∃ st' a, Sees E.C st st' ∧ RetOK E st' rs (res a) ∧ Q a
theorem jW {E : Env} {rs : List ResultVar} {α : Type} {Q : α → Prop} {res : α → SV} {st : St} (a : α) (h : RetOK E st rs (res a)) (hq : Q a) : a6K E rs Q res .ret st := ⟨st, a, Sees.refl _ _, h, hq⟩
theorem FnX.of_wp {P : Program} {T : Nat → Ty} {eqk : Nat → List Nat} (hT : TyOK P T) {f : Nat} {fn : Func} {c : Code} {rs : List ResultVar} {args : List SV} {α : Type} {Q : α → Prop} {res : α → SV}
    (hf : P.funcs[f]? = some fn) (hb : fn.body = some c) (hcall : ∀ aS w, (callFunc f aS).run P w = .ok (.enter f aS) w) (hres : fn.results = rs.toArray)
    (h : ∀ C : Ctx, C.X = [] → WP P C c (aR P C [] (a6K ⟨P, T, C, eqk⟩ rs Q res)) (st0 args fn.ntmps)) : FnX P f args Q res := by
 refine ⟨hcall, fun V w vs htab hm ha => ?_⟩
 let C : Ctx := ⟨w, [], V, htab⟩
 refine calls_of_wp hf hb ?_
 have hr : Rel C [] V (st0 args fn.ntmps) { tmps := vs.toArray ++ Array.replicate (fn.ntmps - vs.toArray.size) undef, defers := [] } w := by
  refine ⟨⟨by simp [st0, ha.1], fun i s y h1 h2 => ?_, rfl⟩, ⟨rfl, fun i b x h => by simp [st0] at h, fun i b x h => by simp [st0] at h, fun i j b b' x x' _ h => by simp [st0] at h, fun i b x h => by simp [st0] at h, fun i b x h => by simp [st0] at h⟩, hm,
   ⟨rfl, rfl, rfl, Nat.le_refl _, fun _ _ _ => rfl⟩, ⟨View.le.refl V, (fun b cs h1 h2 => by have h2' : V b = none := h2; rw [h1] at h2'; cases h2'), (fun b cs h1 h2 => by have h2' : V b = none := h2; rw [h1] at h2'; cases h2')⟩⟩
  simp only [st0] at h1
  rw [List.getElem?_append] at h1
  rw [Array.getElem?_append] at h2
  simp only [List.size_toArray, ha.1] at h2
  split at h1
  ·rw [if_pos ‹_›] at h2
   exact ha.2 i s y h1 (by simpa using h2)
  ·rw [if_neg ‹_›] at h2
   rw [List.getElem?_replicate] at h1
   rw [Array.getElem?_replicate] at h2
   split at h1
   ·rw [if_pos ‹_›] at h2
    cases h1; cases h2; exact eU _ _
   ·cases h1
 refine wp_mono (h C rfl [] V _ w hr) fun e a' w' q => ?_
 cases e with
 | normal =>
  obtain ⟨g, V', st', hr', s, a0, hs, hret, hq⟩ := q
  obtain ⟨g2, V2, hr2⟩ := hs g V' a' w' hr'
  obtain ⟨y, hy, hd⟩ := pG (E := ⟨P, T, C, eqk⟩) hT rfl hr2 hres hret
  exact ⟨hr'.sl.defers, y, hy, y, a0, rfl, hq, hd⟩
 | ret =>
  obtain ⟨g, V', st', hr', s, a0, hs, hret, hq⟩ := q
  obtain ⟨g2, V2, hr2⟩ := hs g V' a' w' hr'
  obtain ⟨y, hy, hd⟩ := pG (E := ⟨P, T, C, eqk⟩) hT rfl hr2 hres hret
  exact ⟨hr'.sl.defers, y, hy, y, a0, rfl, hq, hd⟩
 | exit id => obtain ⟨g, V', st', hr', q⟩ := q; exact q.elim
 | goto l => exact q.elim
 | panic ch => exact q.elim
 | outgrown => exact q.elim
theorem CallS.someX {E : Env} {f : Nat} {args args' : List SV} {α : Type} {Q : α → Prop} {res : α → SV} {st : St} {K : St → SV → Prop} (h : FnX E.P f args' Q res) (he : args.map (dH st.h) = args') (hfree : args'.all bJ = true)
    (k : ∀ a, Q a → K ⟨st.t, st.h ++ adH (res a).all⟩ (adS st.h.length (res a))) : CallS E f args st K := by
 refine ⟨h.enters, fun g V a w vs hr hlen hargs => ?_⟩
 subst he
 have hc : jA V (args.map (dH st.h)) vs := by
  refine ⟨by simp [hlen], fun i s y h1 h2 => ?_⟩
  have hs := List.all_eq_true.1 hfree s (List.mem_of_getElem? h1)
  rw [List.getElem?_map] at h1
  cases hk : args[i]? with
  | none => rw [hk] at h1; cases h1
  | some s0 =>
   rw [hk] at h1
   cases h1
   exact gP (iJ hr (hargs i s0 y hk h2)) hs
 refine (h.calls V w vs hr.tab hr.mod hc).mono ?_
 rintro e w' ⟨y, a0, rfl, hQ, ⟨V', S, hv, hm, hnew, ⟨l, hshape, Ss, r1, r2, r3, r4⟩, hnd, hblk⟩, hbelow⟩
 have hr1 := hr.later hv hm hbelow hnew
 subst r3
 obtain ⟨g', h1, h2, h3⟩ := pI (cs := (res a0).all) hr1 r1 r2 r4 hnd (fun b hb => ⟨.inl (Nat.le_trans hr.fr.size (hblk b hb).1), (hblk b hb).2, fun i hb' x e1 e2 hm' => by
  have := (hr.hp.lo i hb' x e1 e2 b hm').2
  have := (hblk b hb).1
  omega⟩)
 refine ⟨y, g', V', _, _, rfl, h1, ?_, k a0 hQ⟩
 generalize res a0 = res at *
 cases res with
 | o x =>
  have hl : l = [y] := hshape
  subst hl
  simp only [SV.all] at h3
  simp only [adS]
  have hlen1 : (adA st.h.length [x]).length = 1 := iZ _ _
  match he' : adA st.h.length [x], hlen1 with
  | [z], _ =>
   rw [he'] at h3
   exact h3.2 0 z y rfl rfl
 | g cs => exact ⟨l, hshape, h3⟩
 | t cs =>
  obtain ⟨ls, e1, e2, e3, ys, e4, e5, e6⟩ := hshape
  subst e2
  refine ⟨ys, e4, by rw [e5, fT], fun i b c v hi hv' => ?_⟩
  have hlt : i < ls.length := by rw [e1, ← fT st.h.length cs]; exact (List.getElem?_eq_some_iff.1 hi).1
  have hm' : ls[i]? = some ls[i] := List.getElem?_eq_getElem hlt
  obtain ⟨⟨c0, hc0⟩, hcc⟩ := mW st.h.length cs ls e1 e3 h3 i b c _ hi hm'
  have := e6 i b c0 _ v hc0 hm' hv'
  cases b with
  | true => simp only [if_true] at this ⊢; exact ⟨_, this, hcc⟩
  | false => simp only [Bool.false_eq_true, if_false] at this ⊢; rw [← this]; exact hcc
end Go.Sx
end
section
namespace Go.Sx
open Go Go.RowKit
def a0v (op : BinOp) (k : IntKind) (a b : Int) : Int :=
 match op with
 | .add => k.wrap (a + b)
 | .sub => k.wrap (a - b)
 | .mul => k.wrap (a * b)
 | _ => 0
def yX : BinOp → Bool
 | .add | .sub | .mul => true
 | _ => false
def a2i (E : Env) (op : Op) (st : St) (k : St → SV → Prop) : Prop :=
 match op with
 | .binOp bop t x y ty => match ev st x, ev st y with
  | .o (.d (.v (.int kx a))), .o (.d (.v (.int ky b))) => match yX bop with
   | true => kx = ky ∧ k st (.o (.d (.v (.int kx (a0v bop kx a b)))))
   | false => bC E op st k
  | _, _ => bC E op st k
 | _ => bC E op st k
def rM (E : Env) : List Oper → St → (St → Prop) → Prop
 | [], st, K => K st
 | o :: r, st, K => match o.guard with
  | none => a2i E o.op st fun st' s => rM E r (st'.put o.dst s) K
  | some _ => False
theorem a2Z {op : BinOp} {t : Nat} {k : IntKind} {a b : Int} (h : yX op = true) (P : Program) (w : World) : (binOp op t (.int k a) (.int k b)).run P w = .ok (.int k (a0v op k a b)) w := by
 cases op <;> simp only [yX, Bool.false_eq_true] at h
 all_goals simp [binOp, Op.intArith, a0v]
section
variable {E : Env} {g : List Gh} {V : View} {st : St} {a : Act} {w : World} {o : Oper} {k : St → SV → Prop} {K : Act → World → Prop} {Q : Exit → Act → World → Prop}
theorem a4l (hT : TyOK E.P E.T) (hE : ∀ t, E.eqk t ≠ [] → EqT E.P t (E.eqk t)) (h : a2i E o.op st k) (hr : Rel E.C g V st a w) (hK : dQ E o a k K) : o.wp E.P a w K Q := by
 unfold a2i at h
 split at h
 ·rename_i bop t x y ty ho
  split at h
  ·rename_i kx m ky n e1 e2
   split at h
   ·rename_i hw
    obtain ⟨rfl, hk⟩ := h
    have hx := aY hr.sl x
    have hy := aY hr.sl y
    rw [e1] at hx
    rw [e2] at hy
    obtain ⟨hx, _⟩ := aG hx
    obtain ⟨hy, _⟩ := aG hy
    exact aC (fE ho _ (by rw [hx, hy]; exact rC ..) (by rw [hx, hy]; exact a2Z hw E.P w)) (hK g V st w _ _ hr (aM g V _ rfl) hk)
   ·exact gM hT hE h hr hK
  ·exact gM hT hE h hr hK
 ·exact gM hT hE h hr hK
theorem a3a (hT : TyOK E.P E.T) (hE : ∀ t, E.eqk t ≠ [] → EqT E.P t (E.eqk t)) {all : List Oper} {Q : Exit → Act → World → Prop} {K : St → Prop} (hQ : ∀ g V st a w, Rel E.C g V st a w → K st → Q .normal a w) :
    ∀ {l : List Oper} {st : St} {g : List Gh} {V : View} {a : Act} {w : World}, rM E l st K → Rel E.C g V st a w → wpList E.P all.toArray Q l a w := by
 intro l
 induction l with
 | nil => intro st g V a w h hr; exact hQ g V st a w hr h
 | cons o r ih =>
  intro st g V a w h hr
  simp only [rM] at h
  cases hgd : o.guard with
  | none =>
   rw [hgd] at h
   refine wpList_plain hgd fun K' hK' => ?_
   exact a4l hT hE h hr fun g' V' st' w' s y hr' hs hk => hK' _ _ (ih hk (hr'.put o.dst hs))
  | some jb => rw [hgd] at h; exact h.elim
theorem a1D (hT : TyOK E.P E.T) (hE : ∀ t, E.eqk t ≠ [] → EqT E.P t (E.eqk t)) {id : Nat} {ops : List Oper} {F : Ex → St → Prop} {st : St} (h : rM E ops st (F .normal)) : WP E.P E.C (.region id ops.toArray false) F st :=
 fun _ _ _ _ hr => wp_region_lit (a3a hT hE (fun g V st _ _ hr h => ⟨g, V, st, hr, h⟩) h hr)
end
theorem a3b (n : Int) : inR .i64 (IntKind.i64.wrap n) := by
 have e : IntKind.i64.wrap n = if n % 18446744073709551616 ≥ 9223372036854775808 then n % 18446744073709551616 - 18446744073709551616 else n % 18446744073709551616 := by
  unfold IntKind.wrap
  simp [IntKind.bits, IntKind.signed]
 rw [e]
 simp only [inR]
 split <;> omega
theorem uZ (a : Int) (M : Nat) (hM : M < 9223372036854775808) : 0 ≤ iX .and .i64 a (M : Int) ∧ iX .and .i64 a (M : Int) ≤ (M : Int) := by
 have hb : (BitVec.ofInt 64 (M : Int)).toNat = M := by
  rw [BitVec.ofInt_natCast, BitVec.toNat_ofNat]
  exact Nat.mod_eq_of_lt (by omega)
 have hle : (BitVec.ofInt 64 a &&& BitVec.ofInt 64 (M : Int)).toNat ≤ M := by
  rw [BitVec.toNat_and, hb]
  exact Nat.and_le_right
 have hid : IntKind.i64.wrap ((BitVec.ofInt 64 a &&& BitVec.ofInt 64 (M : Int)).toNat : Int) = ((BitVec.ofInt 64 a &&& BitVec.ofInt 64 (M : Int)).toNat : Int) := iQ (by simp only [inR]; omega)
 show 0 ≤ IntKind.i64.wrap ((BitVec.ofInt 64 a &&& BitVec.ofInt 64 (M : Int)).toNat : Int) ∧ IntKind.i64.wrap ((BitVec.ofInt 64 a &&& BitVec.ofInt 64 (M : Int)).toNat : Int) ≤ (M : Int)
 rw [hid]
 omega
end Go.Sx
end
section
namespace Go.Proofs.YtlmpmpddakhfnaaDoor
open Go Go.Sx Go.RowKit Go.Proofs
attribute [go_sem] a1C reD stB a2i rM yX
theorem rJ {f ty : Nat} {fn : Func} {c : Code} {rs : List ResultVar} {ds : List D} {args : List SV} {α : Type} {Q : α → Prop} {res : α → SV} {ds' : α → List D} (hf : Tryd.prog.funcs[f]? = some fn) (hb : fn.body = some c) (hcall : ∀ x w, (callFunc f x).run Tryd.prog w = .ok (.enter f x) w) (hres : fn.results = rs.toArray)
    (h : ∀ (C : Ctx) (b : Nat), WP Tryd.prog C c (aR Tryd.prog C [] (a6I (EV C) rs b ty Q res ds')) (stB b ty ds args fn.ntmps)) : FnB Tryd.prog f ty ds args Q res ds' := FnB.of_wp (eqk := eqk) tX hf hb hcall hres fun C b _ => h C b
theorem a9c {f ty : Nat} {fn : Func} {c : Code} {rs : List ResultVar} {args : List SV} {α : Type} {Q : α → Prop} {ds' : α → List D} (hf : Tryd.prog.funcs[f]? = some fn) (hb : fn.body = some c) (hcall : ∀ x w, (callFunc f x).run Tryd.prog w = .ok (.enter f x) w) (hres : fn.results = rs.toArray)
    (h : ∀ C : Ctx, WP Tryd.prog C c (aR Tryd.prog C [] (a6J (EV C) rs ty Q ds')) (st0 args fn.ntmps)) : FnN Tryd.prog f ty args Q ds' := FnN.of_wp (eqk := eqk) tX hf hb hcall hres fun C _ => h C
theorem qF {C : Ctx} {f ty id : Nat} {ds : List D} {args' rest : List SV} {α : Type} {Q : α → Prop} {res : α → SV} {ds' : α → List D} {st : St} {K : St → SV → Prop} (h : FnB Tryd.prog f ty ds args' Q res ds') (hid : a1C ty ds (bK st.h id)) (he : rest.map (dH st.h) = args') (hfree : args'.all bJ = true)
    (k : ∀ a, Q a → K ⟨st.t, setH st.h id (reD (ds' a) (bK st.h id)) ++ adH (res a).all⟩ (adS (setH st.h id (reD (ds' a) (bK st.h id))).length (res a))) : CallT (EV C) f (.o (.p id 0) :: rest) st K ⟨⟩ := ⟨CallS.block (E := EV C) h hid he hfree k⟩
theorem a2f {C : Ctx} {f ty : Nat} {args args' : List SV} {α : Type} {Q : α → Prop} {ds' : α → List D} {st : St} {K : St → SV → Prop} (h : FnN Tryd.prog f ty args' Q ds') (he : args.map (dH st.h) = args') (hfree : args'.all bJ = true)
    (k : ∀ a, Q a → K ⟨st.t, st.h ++ [.box ty ((ds' a).map At.d)]⟩ (.o (.p st.h.length 0))) : CallT (EV C) f args st K ⟨⟩ := ⟨CallS.newBlk (E := EV C) h he hfree k⟩
theorem a5C {f : Nat} {fn : Func} {c : Code} {rs : List ResultVar} {args : List SV} {α : Type} {Q : α → Prop} {res : α → SV} (hf : Tryd.prog.funcs[f]? = some fn) (hb : fn.body = some c) (hcall : ∀ x w, (callFunc f x).run Tryd.prog w = .ok (.enter f x) w) (hres : fn.results = rs.toArray)
    (h : ∀ C : Ctx, WP Tryd.prog C c (aR Tryd.prog C [] (a6K (EV C) rs Q res)) (st0 args fn.ntmps)) : FnX Tryd.prog f args Q res := FnX.of_wp (eqk := eqk) tX hf hb hcall hres fun C _ => h C
theorem a2g {C : Ctx} {f : Nat} {args args' : List SV} {α : Type} {Q : α → Prop} {res : α → SV} {st : St} {K : St → SV → Prop} (h : FnX Tryd.prog f args' Q res) (he : args.map (dH st.h) = args') (hfree : args'.all bJ = true)
    (k : ∀ a, Q a → K ⟨st.t, st.h ++ adH (res a).all⟩ (adS st.h.length (res a))) : CallT (EV C) f args st K ⟨⟩ := ⟨CallS.someX (E := EV C) h he hfree k⟩
theorem a7T {C : Ctx} {f : Nat} {args : List SV} {st : St} {K : St → SV → Prop} (ids : List Nat) (k : CallT (EV C) f args ⟨st.t, aQ st.h ids⟩ K ⟨⟩) : CallT (EV C) f args st K ⟨⟩ :=
 ⟨CallS.sees (E := EV C) (fun g V a w hr => by obtain ⟨g', V', h, _⟩ := dU ids hr; exact ⟨g', V', h⟩) (fun g V a w hr => by obtain ⟨g', V', h, h1, h2, _⟩ := dU ids hr; exact ⟨g', V', h, h1, h2⟩) k.out⟩
theorem a9d {C : Ctx} {id : Nat} {ops : List Oper} {F : Ex → St → Prop} {st : St} (h : rM (EV C) ops st (F .normal)) : WP Tryd.prog C (.region id ops.toArray false) F st := a1D (E := EV C) tX a2u h
end Go.Proofs.YtlmpmpddakhfnaaDoor
end
section
set_option maxRecDepth 100000
set_option maxHeartbeats 4000000
namespace Go.Proofs.YtlmpmpddakhfnaaDoor
open Go Go.Sx Go.RowKit Go.Proofs
@[go_sem] def lQ (n : Int) : List D := [.v (.int .u8 n)]
def wfU (l : List Int) : Prop := l.length ≤ 9223372036854775807 ∧ ∀ i ∈ l, inR .u8 i
theorem a9b {n : Nat} {r : List D} (h : ShD tt n 5 r) : ∃ i, r = lQ i ∧ inR .u8 i := by
 match n, h with
 | n + 1, ⟨i, h, hi⟩ => exact ⟨i, h, hi⟩
theorem a7S {n : Nat} {r : List D} (h : ShD tt n 22 r) : ∃ l : List Int, r = [.sl (l.map lQ)] ∧ wfU l := by
 match n, h with
 | n + 1, ⟨rows, h, hm, hr⟩ =>
  obtain ⟨l, rfl, hl⟩ := a0f lQ (inR .u8) (fun r h => a9b (hr r h))
  exact ⟨l, h, by unfold maxLen at hm; simpa using hm, hl⟩
@[go_sem] def a1B (l : List Int) (i h : Int) : List D := [.sl (l.map lQ), iv i, iv h]
theorem nD (l : List Int) (hl : l.length ≤ 1048576) (hw : ∀ i ∈ l, inR .u8 i) : FnN Tryd.prog 30 89 [.o (.d (.sl (l.map lQ)))] (fun h : Int => inR .i64 h) (fun h => a1B l 0 h) := by
 refine a9c Tryd.func30 rfl Tryd.call30 rfl (fun C => ?_); simp only [go_sem, st0, Tryd.ntmps30]
 refine aF ?_
 refine dG (α := Nat × Int) (fun x => [(4, oi x.1), (3, oi x.2)]) (fun _ => []) (fun x => x.1 ≤ l.length ∧ (0 ≤ x.2 ∧ x.2 ≤ 1200000000)) (fun x => l.length - x.1) (0, 94701 + l.length) (fun _ => ?_) ?_ ?_ (fun x hx => ?_)
 ·simp only [go_sem]
 ·simp only [go_sem]; simp
 ·exact ⟨Nat.zero_le _, by simp only; omega⟩
 ·obtain ⟨k, h⟩ := x
  obtain ⟨h1, h2, h3⟩ := hx
  simp only at h1 h2 h3
  simp only [go_sem]
  by_cases g1 : k < l.length
  ·have g1' : ((k : Int) < (l.length : Int)) = True := by simp [g1]
   have hb := hw l[k] (List.getElem_mem g1)
   simp only [inR] at hb
   by_cases g2 : (k : Int) < 4000
   ·have g2' : ((k : Int) < 4000) = True := by simp [g2]
    have hm : 0 ≤ iX .and .i64 (h * 131 + l[k] + 7) 1073741823 ∧ iX .and .i64 (h * 131 + l[k] + 7) 1073741823 ≤ 1073741823 := uZ (h * 131 + l[k] + 7) 1073741823 (by decide)
    have q0 := @g1; have q1 := @g1'; have q2 := @g2'; have q3 := @decide_true; refine kU ?_
    refine aU (k + 1, iX .and .i64 (h * 131 + l[k] + 7) 1073741823) ?_ ?_ ?_
    ·simp only [go_sem]; simp
    ·exact ⟨by simp only; omega, by simp only; omega⟩
    ·simp only; omega
   ·have g2' : ((k : Int) < 4000) = False := by simp [g2]
    have q0 := @g1'; have q1 := @g2'; have q2 := @decide_true; have q3 := @decide_false; refine kU ?_
    exact a0u h 0 ⟨by omega, by omega⟩ (by simp only [go_sem]) (by simp only [go_sem])
  ·have g1' : ((k : Int) < (l.length : Int)) = False := by simp [g1]
   have q0 := @g1'; have q1 := @decide_false; refine lN ?_
   exact a0u h 0 ⟨by omega, by omega⟩ (by simp only [go_sem]) (by simp only [go_sem])
theorem qD (l : List Int) (hl : l.length ≤ 1048576) (hw : ∀ i ∈ l, inR .u8 i) (i : Nat) (h : Int) (hi : i ≤ l.length) (hh : inR .i64 h) : FnB Tryd.prog 79 89 (a1B l i h) [] (fun x : Int × Nat × Int => (0 ≤ x.1 ∧ x.1 ≤ 255) ∧ (x.2.1 ≤ l.length ∧ inR .i64 x.2.2)) (fun x => oi x.1) (fun x => a1B l x.2.1 x.2.2) := by
 refine rJ Tryd.func79 rfl Tryd.call79 rfl (fun C b => ?_); simp only [go_sem, Tryd.ntmps79]
 repeat' (with_reducible first | refine nX ?_ | (refine mX ?_; try simp only [go_sem]) | refine kD ?_ | refine aO ?_ | fail)
 refine reg ?_
 repeat' (with_reducible first | refine nX ?_ | (refine mX ?_; try simp only [go_sem]) | refine kD ?_ | refine aO ?_ | fail)
 refine a9d ?_
 simp only [go_sem]
 obtain ⟨h', hh', e⟩ : ∃ h', inR .i64 h' ∧ a0v .add .i64 (a0v .mul .i64 h 6364136223846793005) 1442695040888963407 = h' := ⟨_, a3b _, rfl⟩
 rw [e]
 have hx : 0 ≤ iX .and .i64 (iX .xor .i64 (vT .i64 h' 33) (vT .i64 h' 45)) 255 ∧ iX .and .i64 (iX .xor .i64 (vT .i64 h' 33) (vT .i64 h' 45)) 255 ≤ 255 := uZ _ 255 (by decide)
 simp only [inR] at hh'
 by_cases g : i < l.length
 ·have g' : ((i : Int) < (l.length : Int)) = True := by simp [g]
  have hb := hw l[i] (List.getElem_mem g)
  simp only [inR] at hb
  have q0 := @g; have q1 := @g'; have q2 := @decide_true; refine oN ?_
  have hy : ∀ a : Int, 0 ≤ iX .and .i64 a 255 ∧ iX .and .i64 a 255 ≤ 255 := fun a => uZ a 255 (by decide)
  exact aN (iX .and .i64 (iX .and .i64 (iX .xor .i64 (vT .i64 h' 33) (vT .i64 h' 45)) 255 + l[i]) 255, i + 1, h') ⟨⟨_, rfl, by simp only [go_sem]⟩, trivial⟩ ⟨hy _, ⟨by simp only; omega, hh'⟩⟩ (by simp only [go_sem]; simp)
 ·have g' : ((i : Int) < (l.length : Int)) = False := by simp [g]
  have q0 := @g'; have q1 := @decide_false; refine lN ?_
  exact aN (iX .and .i64 (iX .xor .i64 (vT .i64 h' 33) (vT .i64 h' 45)) 255, i, h') ⟨⟨_, rfl, by simp only [go_sem]⟩, trivial⟩ ⟨hx, ⟨hi, hh'⟩⟩ (by simp only [go_sem])
theorem qE (l : List Int) (hl : l.length ≤ 1048576) (hw : ∀ i ∈ l, inR .u8 i) (i : Nat) (h : Int) (hi : i ≤ l.length) (hh : inR .i64 h) (n : Int) (hn : 1 ≤ n) (hn2 : n ≤ 1000000000) : FnB Tryd.prog 53 89 (a1B l i h) [oi n] (fun x : Int × Nat × Int => (0 ≤ x.1 ∧ x.1 < n) ∧ (x.2.1 ≤ l.length ∧ inR .i64 x.2.2)) (fun x => oi x.1) (fun x => a1B l x.2.1 x.2.2) := by
 have hn0 : (n ≤ 0) = False := by simp; omega
 have hne : n ≠ 0 := by omega
 refine rJ Tryd.func53 rfl Tryd.call53 rfl (fun C b => ?_); simp only [go_sem, Tryd.ntmps53]
 by_cases g : n ≤ 256
 ·have g' : (n ≤ 256) = True := by simp [g]
  have q0 := @hn0; have q1 := @g'; have q2 := @hne; have q3 := @decide_true; have q4 := @decide_false; refine a3T ?_
  refine qF (qD l hl hw i h hi hh) ⟨rfl, rfl⟩ rfl rfl ?_
  rintro ⟨x, i1, h1⟩ ⟨⟨b1, b2⟩, b3, b4⟩
  simp only at b1 b2 b3 b4
  simp only [go_sem]
  have q0 := @hne; refine jL ?_
  have q1 : 0 ≤ x.tmod n := Int.tmod_nonneg n b1
  have q2 : x.tmod n < n := Int.tmod_lt_of_pos x (by omega)
  exact aN (x.tmod n, i1, h1) ⟨⟨_, rfl, by simp only [go_sem]⟩, trivial⟩ ⟨⟨q1, q2⟩, ⟨b3, b4⟩⟩ (by simp only [go_sem])
 ·have g' : (n ≤ 256) = False := by simp [g]
  have q0 := @hn0; have q1 := @g'; have q2 := @hne; have q3 := @decide_true; have q4 := @decide_false; refine a3T ?_
  refine qF (qD l hl hw i h hi hh) ⟨rfl, rfl⟩ rfl rfl ?_
  rintro ⟨x, i1, h1⟩ ⟨⟨b1, b2⟩, b3, b4⟩
  simp only at b1 b2 b3 b4
  simp only [go_sem]
  have q0 := @hne; refine jL ?_
  refine qF (qD l hl hw i1 h1 b3 b4) ⟨rfl, rfl⟩ rfl rfl ?_
  rintro ⟨y, i2, h2⟩ ⟨⟨c1, c2⟩, c3, c4⟩
  simp only at c1 c2 c3 c4
  simp only [go_sem]
  have q0 := @hne; refine jL ?_
  refine qF (qD l hl hw i2 h2 c3 c4) ⟨rfl, rfl⟩ rfl rfl ?_
  rintro ⟨z, i3, h3⟩ ⟨⟨d1, d2⟩, d3, d4⟩
  simp only at d1 d2 d3 d4
  simp only [go_sem]
  have q0 := @hne; refine jL ?_
  refine qF (qD l hl hw i3 h3 d3 d4) ⟨rfl, rfl⟩ rfl rfl ?_
  rintro ⟨v, i4, h4⟩ ⟨⟨e1, e2⟩, e3, e4⟩
  simp only at e1 e2 e3 e4
  simp only [go_sem]
  have q0 := @hne; refine jL ?_
  have q1 : 0 ≤ (x * 16777216 + y * 65536 + z * 256 + v).tmod n := Int.tmod_nonneg n (by omega)
  have q2 : (x * 16777216 + y * 65536 + z * 256 + v).tmod n < n := Int.tmod_lt_of_pos _ (by omega)
  exact aN ((x * 16777216 + y * 65536 + z * 256 + v).tmod n, i4, h4) ⟨⟨_, rfl, by simp only [go_sem]⟩, trivial⟩ ⟨⟨q1, q2⟩, ⟨e3, e4⟩⟩ (by simp only [go_sem])
end Go.Proofs.YtlmpmpddakhfnaaDoor
end
