/- Joined texts. -/
import Derived.Test.YtgpoopjfkplilaaGreatDoorCards
import Derived.Test.YtgpoopjfkplilaaGreatDoorTie
import Derived.Test.YtgpoopjfkplilaaGreatDoorZ13
import Derived.Test.YtgpoopjfkplilaaGreatDoorZ06
import Derived.OpenShut
import Derived.WalkKit
import Derived.ProofKit
import Derived.Deep.DeepHandedRow
import Derived.Deep.DeepWitnessRowRef
import Derived.Deep.DeepLaidRun
import Derived.Lib.LaidTab
import Derived.Stop.LaidErr
import Derived.Shelf.Vars
import Derived.Test.YtgpoopjfkplilaaGreatDoorZ05
import Derived.Test.YtgpoopjfkplilaaGreatDoorZ07
import Derived.Test.YtgpoopjfkplilaaGreatDoorZ08
set_option linter.all false
section
set_option maxRecDepth 100000
namespace Go.Proofs.YtgpoopjfkplilaaGreatDoor
open Go Go.Sx Go.RowKit Go.Proofs
theorem a7f : (Tryz.prog.globals[4]?).map (·.type) = some 270 := by kernel_rfl
theorem a2E : Tryz.prog.cellsOf 270 = 20 := by kernel_rfl
theorem a4e : Tryz.prog.cellsOf 246 = 1 := by kernel_rfl
theorem a9C : Tryz.prog.underlying 270 = some (.array 20 246) := by kernel_rfl
theorem a7g : Tryz.prog.underlying 246 = some (.int .u64) := by kernel_rfl
theorem a5o : (Rows.laid_internal_strconv_uint64pow10 : DataW Unit) = Lib.tabData .u64 Lib.pow10Tab := by kernel_rfl
theorem a7h : (Tryz.prog.globals[0]?).map (·.type) = some 254 := by kernel_rfl
theorem a2F : Tryz.prog.cellsOf 254 = 256 := by kernel_rfl
theorem a4f : Tryz.prog.cellsOf 5 = 1 := by kernel_rfl
theorem a9D : Tryz.prog.underlying 254 = some (.array 256 5) := by kernel_rfl
theorem a7i : Tryz.prog.underlying 5 = some (.int .u8) := by kernel_rfl
theorem a5p : (Rows.laid_strings_asciiSpace : DataW Unit) = Lib.tabData .u8 Lib.asciiSpaceTab := by kernel_rfl
theorem a1u : Tryz.prog.globalNamed "strconv.ErrSyntax" = some 2 := by kernel_rfl
theorem a9E : (Tryz.prog.globals[2]?).map (·.type) = some 147 := by kernel_rfl
theorem b0W : ∃ ms, Tryz.prog.underlying 147 = some (.interface ms) := by
 have h : (match Tryz.prog.underlying 147 with | some (.interface _) => true | _ => false) = true := by kernel_rfl
 split at h
 ·exact ⟨_, by assumption⟩
 ·cases h
def a2V : List (String × DataW Unit) := [("math/bits.deBruijn32tab", Rows.laid_math_bits_deBruijn32tab), ("math/bits.deBruijn64tab", Rows.laid_math_bits_deBruijn64tab), ("internal/strconv.uint64pow10", Rows.laid_internal_strconv_uint64pow10), ("unicode/utf8.acceptRanges", Rows.laid_unicode_utf8_acceptRanges), ("strconv.ErrRange", Rows.laid_strconv_ErrRange), ("strconv.ErrSyntax", Rows.laid_strconv_ErrSyntax), ("unicode.White_Space", Rows.laid_unicode_White_Space), ("strings.asciiSpace", Rows.laid_strings_asciiSpace), ("unicode/utf8.first", Rows.laid_unicode_utf8_first)]
theorem a5q : (a2V.filter fun x => x.2.handleName?.isSome) = [] := by kernel_rfl
theorem a9F {W : World} (h : laidMetH Tryz.prog a2V W) : laidMet Tryz.prog a2V W := by
 unfold laidMetH at h
 rw [a5q] at h
 exact h
theorem b2W {W : World} {r : List (String × DataW Unit)} (h : laidMet Tryz.prog (("strconv.ErrSyntax", Rows.laid_strconv_ErrSyntax) :: r) W) : ∃ te pe, W.var? Tryz.prog "strconv.ErrSyntax" = some #[.iface te pe] := by
 obtain ⟨ps, ⟨g0, t0, cs0, f0, p0, q0, hg0, ht0, hv0, hd0, _, e0⟩, _⟩ := h
 obtain rfl := Option.some.inj (a1u.symm.trans hg0)
 obtain rfl := Option.some.inj (a9E.symm.trans ht0)
 obtain ⟨ms, hi⟩ := b0W
 obtain ⟨l0⟩ := cs0
 obtain ⟨_, u, v, e, _⟩ := iface_of_trod hi hd0
 have e : l0 = [.iface u v] := e
 subst e
 exact ⟨u, v, hv0⟩
theorem a2W {W : World} {n : String} {g : Nat} {cs : Array Value} (hg : Tryz.prog.globalNamed n = some g) (h : W.var? Tryz.prog n = some cs) : ∃ ty fz, W.heap[g]? = some (.cells cs ty fz) := by
 unfold World.var? at h
 rw [hg, Option.bind_some] at h
 split at h
 ·rename_i c ty fz e
  cases h
  exact ⟨ty, fz, e⟩
 ·cases h
theorem b2X {W : World} (h : W.ShapedOpen Tryz.prog) : ∃ m, W.cell? ⟨1, 0, none⟩ = some (.int .i64 m) :=
 cell_of_shapedOpen_int (zero := #[.int .i64 0]) (t := 3) h (of_decide_eq_true (by kernel_rfl)) (by kernel_rfl) rfl (by kernel_rfl) (by kernel_rfl) (by kernel_rfl)
theorem b2Y {W : World} (h : laidMetH Tryz.prog a2V W) (hS : W.ShapedOpen Tryz.prog) : tabOK W [] := by
 have h' := a9F h
 unfold a2V at h'
 have h2 := h'.tail.tail
 have h5 := h2.tail.tail.tail
 have h7 := h5.tail.tail
 rw [a5o] at h2
 rw [a5p] at h7
 have t1 := b1i (Lib.tabIs_of_head tL a7f a9C a7g a4e a2E h2)
 have t2 := Lib.tabIs_of_head oF a7h a9D a7i a4f a2F h7
 obtain ⟨te, pe, t3⟩ := b2W h5
 obtain ⟨m, t4⟩ := b2X hS
 intro t ht
 refine ⟨by simp, ?_⟩
 rcases List.mem_append.1 ht with ht | ht
 ·exact t1 t ht
 ·have ht : t ∈ [_, _, _] := ht
  simp only [List.mem_cons, List.not_mem_nil, or_false] at ht
  rcases ht with rfl | rfl | rfl
  ·obtain ⟨ty, fz, e⟩ := a2W oF t2
   refine ⟨_, ty, fz, e, ?_⟩
   show _ = List.toArray _
   rw [a0v]
  ·obtain ⟨ty, fz, e⟩ := a2W a1u t3
   exact ⟨_, ty, fz, e, te, pe, rfl⟩
  ·unfold World.cell? at t4
   simp only at t4
   split at t4
   ·rename_i cs ty fz e
    exact ⟨cs, ty, fz, e, m, by simpa using t4⟩
   ·cases t4
def b7U : DataW Unit → Value
 | .lit (.int k n) => Value.int k n
 | _ => .bool false
def wJ : DataW Unit → List Value
 | .agg l => l.map b7U
 | _ => []
def b4I : DataW Unit → List Value
 | .agg l => l.flatMap wJ
 | _ => []
def b4J : DataW Unit → List Value
 | .ptr (.agg (.slice l _ :: _)) => l.flatMap wJ
 | _ => []
def a4g (cs : List Value) : Obj → Obj
 | .cells _ t frozen => .cells cs.toArray t frozen
 | o => o
noncomputable def uT (os : Os) : World :=
 let N := (World.settled Tryz.prog os).heap.size
 let w0 := World.holding Tryz.prog os ⟨#[.cells #[.string ⟨#[118, 97, 108, 117, 101, 32, 111, 117, 116, 32, 111, 102, 32, 114, 97, 110, 103, 101]⟩] 288, .cells #[.string ⟨#[105, 110, 118, 97, 108, 105, 100, 32, 115, 121, 110, 116, 97, 120]⟩] 288,
  .cells (b4J Rows.laid_unicode_White_Space).toArray 297, .cells #[.slice (some ⟨N + 2, 0, none⟩) 7 7, .slice none 0 0, .int .i64 2] 294], #[], []⟩
 let h1 := w0.heap.modify 8 (a4g (wJ Rows.laid_math_bits_deBruijn32tab))
 let h2 := h1.modify 9 (a4g (wJ Rows.laid_math_bits_deBruijn64tab))
 let h3 := h2.modify 4 (a4g (wJ Rows.laid_internal_strconv_uint64pow10))
 let h4 := h3.modify 7 (a4g (b4I Rows.laid_unicode_utf8_acceptRanges))
 let h5 := h4.modify 3 (a4g [.iface 286 (.pointer (some ⟨N, 0, none⟩))])
 let h6 := h5.modify 2 (a4g [.iface 286 (.pointer (some ⟨N + 1, 0, none⟩))])
 let h7 := h6.modify 5 (a4g [.pointer (some ⟨N + 3, 0, none⟩)])
 let h8 := h7.modify 0 (a4g (wJ Rows.laid_strings_asciiSpace))
 let h9 := h8.modify 6 (a4g (wJ Rows.laid_unicode_utf8_first))
 { w0 with heap := h9 }
set_option maxRecDepth 100000 in
theorem a9G (os : Os) (args : Array Value) : laidMet Tryz.prog a2V ((uT os).forCall (fun _ _ => 0) ⟨#[], args, []⟩).memory :=
 laidMet_of_run3 8 (by kernel_rfl) (by kernel_rfl) (by kernel_rfl)
end Go.Proofs.YtgpoopjfkplilaaGreatDoor
end
section
namespace Go.Sx
open Go Go.RowKit
structure DoneB (V : View) (w : World) (b ty : Nat) (res : SV) (ds' : List D) (y : Value) (w' : World) : Prop where
 grown : w.grownBy w' (some b)
 out : ∃ V' S l', V.le V' ∧ Mod V' w' ∧ (∀ n cs, V' n = some cs → V n = none → w.heap.size ≤ n ∧ Unf w' n) ∧ rSV V' w' res y S ∧ S.Nodup ∧ (∀ n ∈ S, w.heap.size ≤ n ∧ n < w'.heap.size) ∧ w'.heap[b]? = some (.cells (List.toArray l') ty (0, 0)) ∧ cL [] V' (ds'.map At.d) l'
structure FnB (P : Program) (f ty : Nat) (ds : List D) (args : List SV) {α : Type} (Q : α → Prop) (res : α → SV) (ds' : α → List D) : Prop where
 enters : ∀ aS w, (callFunc f aS).run P w = .ok (.enter f aS) w
 calls : ∀ V w b l vs, tabOK w [b] → Mod V w → V b = none → b < w.heap.size → w.heap[b]? = some (.cells (List.toArray l) ty (0, 0)) → cL [] V (ds.map At.d) l → lY V args vs →
  Calls P f (Value.pointer (some ⟨b, 0, none⟩) :: vs).toArray w fun e w' => ∃ y a, e = .returned y ∧ Q a ∧ DoneB V w b ty (res a) (ds' a) y w'
section
variable {E : Env} {C : Ctx} {g : List Gh} {V : View} {st : St} {a : Act} {w : World}
theorem a9q (hr : Rel C g V st a w) : ∀ {aS bs : List At}, gV st.h aS bs → ∀ b ∈ (mZ g aS bs).flatten, ∃ (id : Nat) (x : Gh) (ty sz : Nat) (rows : List (List D)) (lin : Bool), st.h[id]? = some (.row ty sz rows lin) ∧ g[id]? = some x ∧ b ∈ ownB x (.row ty sz rows lin)
 | [], [], _, b, hb => by simp [mZ] at hb
 | [], _ :: _, h, _, _ => by simp [gV] at h
 | _ :: _, [], h, _, _ => by simp [gV] at h
 | x :: aS, r :: bs, h, b, hb => by
  have hx : sO st.h x r := (kV h).2 0 x r rfl rfl
  have ht : gV st.h aS bs := by
   cases aS with
   | nil => cases bs with
    | nil => trivial
    | cons => simp [gV] at h
   | cons a2 aS => cases bs with
    | nil => simp [gV] at h
    | cons b2 bs => exact h.2
  simp only [mZ, List.flatten_cons, List.mem_append] at hb
  rcases hb with hb | hb
  ·cases x with
   | s id => cases r with
    | w ty sz rows =>
     simp only [goS] at hb
     cases hg : g[id]? with
     | none => simp [hg] at hb
     | some gx =>
      simp only [hg] at hb
      simp only [sO] at hx
      split at hx
      ·rename_i ty' sz' rows' lin e
       obtain ⟨rfl, rfl, rfl, rfl⟩ := hx
       exact ⟨id, gx, _, _, _, _, aF e (by simp), hg, by simpa [ownB] using hb⟩
      ·exact hx.elim
    | m ty sz rows =>
     simp only [goS] at hb
     cases hg : g[id]? with
     | none => simp [hg] at hb
     | some gx =>
      simp only [hg] at hb
      simp only [sO] at hx
      split at hx
      ·rename_i ty' sz' rows' lin e
       obtain ⟨rfl, rfl, rfl⟩ := hx
       exact ⟨id, gx, _, _, _, _, aF e (by simp), hg, by simp only [ownB]; exact List.mem_append.2 (.inl hb)⟩
      ·exact hx.elim
    | _ => simp [goS] at hb
   | _ => simp [goS] at hb
  ·exact a9q hr ht b hb
theorem a3M (hT : TyOK E.P E.T) {pb ty : Nat} {ds' : List D} (hX : C.X = [pb]) (hr : Rel C g V st a w) {fn : Func} {rs : List ResultVar} (hf : fn.results = rs.toArray) {res : SV} (h : RetOK E st rs res) (h0 : bK st.h 0 = .pin pb ty ds') :
    ∃ y, (results fn a.tmps).run E.P w = .ok y w ∧ DoneB C.V0 C.w0 pb ty res ds' y w := by
 have hi0 := aF h0 (by simp)
 obtain ⟨x0, hx0⟩ : ∃ x0, g[0]? = some x0 := ⟨_, List.getElem?_eq_getElem (by rw [hr.hp.glen]; exact (List.getElem?_eq_some_iff.1 hi0).1)⟩
 obtain ⟨p1, l', p2, p3⟩ := hr.hp.hb 0 _ x0 hi0 hx0
 have pr : V pb = none := hr.hp.rt 0 _ x0 hi0 hx0 pb (by simp [aY, p1])
 obtain ⟨⟨l, h1, h2, h3, h4⟩, hone⟩ := h
 obtain ⟨vs, ls, f1, f2, f3, f4, f5⟩ := nA hT hr h1
 have f1' : (rs.mapM (rvM a)).run E.P w = .ok vs w := by
  rw [← f1]
  congr 2
 refine ⟨_, jV hf f1', ⟨hr.fr.os, hr.fr.tape, hr.fr.output, hr.fr.size, fun k hk hne => hr.fr.block k hk (by rw [hX]; simpa using fun e => hne (by rw [e]))⟩, V, (mZ g (l.flatMap (·.2)) ((resL res).flatMap (·.2))).flatten, l', hr.vw.le, hr.mod, fun b cs q1 q2 => ?_, ⟨ls.flatten, ?_, ?_⟩, mK hr h3 h4, fun b hb => ?_, p2, p3⟩
 ·have := hr.vw.fresh b cs q1 q2
  rw [hX] at this
  refine ⟨?_, hr.vw.unf b cs q1 q2⟩
  rcases this with h | h
  ·exact h
  ·simp only [List.mem_singleton] at h
   subst h
   rw [pr] at q1; cases q1
 ·
  have hlen : l.length = (resL res).length := by simpa using congrArg List.length h2
  have hget : ∀ (k : Nat) (b : Bool) (c : List At), (resL res)[k]? = some (b, c) → ∃ c', l[k]? = some (b, c') ∧ c'.length = c.length := fun k b c hk => by
   have := congrArg (fun z => z[k]?) h2
   simp only [List.getElem?_map, hk, Option.map_some] at this
   cases hl : l[k]? with
   | none => rw [hl] at this; cases this
   | some x =>
    rw [hl] at this
    simp only [Option.map_some, Option.some.injEq, Prod.mk.injEq] at this
    exact ⟨x.2, by rw [← this.1], this.2⟩
  have one : ∀ (b : Bool) (c : List At), resL res = [(b, c)] → ∃ v m, vs = [v] ∧ ls = [m] ∧ (if b then v = .agg m.toArray else m = [v]) := fun b c e => by
   obtain ⟨c', hc', _⟩ := hget 0 b c (by rw [e]; rfl)
   rw [e] at hlen
   match vs, f2.trans hlen, ls, f3.trans hlen with
   | [v], _, [m], _ => exact ⟨v, m, rfl, rfl, (f4 0 b c' m v hc' rfl rfl).1⟩
  cases res with
  | o x =>
   obtain ⟨v, m, rfl, rfl, e⟩ := one false [x] rfl
   simpa [shapeOf] using e
  | g cs =>
   obtain ⟨v, m, rfl, rfl, e⟩ := one true cs rfl
   simpa [shapeOf] using e
  | t cs =>
   refine ⟨ls, f3.trans hlen, rfl, fun k b c m hk hm => ?_, vs, ?_, f2.trans hlen, fun k b c m v hk hm hv => ?_⟩
   ·obtain ⟨c', hc', e⟩ := hget k b c hk
    have hv : k < vs.length := by rw [f2, ← f3]; exact (List.getElem?_eq_some_iff.1 hm).1
    have := (f4 k b c' m _ hc' hm (List.getElem?_eq_getElem hv)).2.1
    omega
   ·have hne : vs.length ≠ 1 := by rw [f2, hlen]; exact hone
    match vs, hne with
    | [], _ => rfl
    | v :: v' :: r, _ => rfl
   ·obtain ⟨c', hc', e⟩ := hget k b c hk
    exact (f4 k b c' m v hc' hm hv).1
 ·have hl := kV h3
  refine ⟨mZ g (l.flatMap (·.2)) ((resL res).flatMap (·.2)), ?_, ?_, rfl, fun k x y s e1 e2 e3 => ?_⟩
  ·rw [f5.1, hl.1, pI]
  ·rw [xW g hl.1, hl.1, pI]
  ·rw [pI] at e1
   have hk : k < (l.flatMap (·.2)).length := by rw [hl.1]; exact (List.getElem?_eq_some_iff.1 e1).1
   have e0 : (l.flatMap (·.2))[k]? = some ((l.flatMap (·.2))[k]) := List.getElem?_eq_getElem hk
   rw [xX g e0 e1] at e3
   cases e3
   exact a4q hr (hl.2 k _ x e0 e1) (f5.2 k _ y e0 e2)
 ·obtain ⟨id, x, rty, rsz, rr, rl, e1, e2, e3⟩ := a9q hr h3 b hb
  have := hr.hp.lo id _ x e1 e2 b e3
  refine ⟨?_, this.2⟩
  rw [hX] at this
  rcases this.1 with h | h
  ·exact h
  ·simp only [List.mem_singleton] at h
   subst h
   have hne : id ≠ 0 := fun e => by rw [e, hi0] at e1; cases e1
   exact (hr.hp.dj id 0 _ _ x x0 hne e1 e2 hi0 hx0 b e3 (by simp [ownB, p1])).elim
end
def b2A (E : Env) (rs : List ResultVar) (b ty : Nat) {α : Type} (Q : α → Prop) (res : α → SV) (ds' : α → List D) : Ex → St → Prop
 | .exit _, _ => False
 | _, st => ∃ st' a, Sees E.C st st' ∧ RetOK E st' rs (res a) ∧ Q a ∧ bK st'.h 0 = .pin b ty (ds' a)
theorem aJ {E : Env} {rs : List ResultVar} {b ty : Nat} {α : Type} {Q : α → Prop} {res : α → SV} {ds' : α → List D} {st : St} (a : α) (h : RetOK E st rs (res a)) (hq : Q a) (hp : bK st.h 0 = .pin b ty (ds' a)) : b2A E rs b ty Q res ds' .ret st := ⟨st, a, Sees.refl _ _, h, hq, hp⟩
def stB (b ty : Nat) (ds : List D) (args : List SV) (n : Nat) : St := ⟨.o (.p 0 0) :: (args ++ List.replicate (n - 1 - args.length) (.t [])), [.pin b ty ds]⟩
theorem FnB.of_wp {P : Program} {T : Nat → Ty} {eqk : Nat → List Nat} (hT : TyOK P T) {f : Nat} {fn : Func} {c : Code} {rs : List ResultVar} {ty : Nat} {ds : List D} {args : List SV} {α : Type} {Q : α → Prop} {res : α → SV} {ds' : α → List D}
    (hf : P.funcs[f]? = some fn) (hb : fn.body = some c) (hcall : ∀ aS w, (callFunc f aS).run P w = .ok (.enter f aS) w) (hres : fn.results = rs.toArray)
    (h : ∀ (C : Ctx) (b : Nat), C.X = [b] → WP P C c (bN P C [] (b2A ⟨P, T, C, eqk⟩ rs b ty Q res ds')) (stB b ty ds args fn.ntmps)) : FnB P f ty ds args Q res ds' := by
 refine ⟨hcall, fun V w b l vs htab hm hVb hlt hheap hcl ha => ?_⟩
 let C : Ctx := ⟨w, [b], V, htab⟩
 refine calls_of_wp hf hb ?_
 let x : Gh := ⟨some b, undef, [], []⟩
 have hr : Rel C [x] V (stB b ty ds args fn.ntmps) { tmps := (Value.pointer (some ⟨b, 0, none⟩) :: vs).toArray ++ Array.replicate (fn.ntmps - (Value.pointer (some ⟨b, 0, none⟩) :: vs).toArray.size) undef, defers := [] } w := by
  refine ⟨⟨by simp [stB, ha.1]; omega, fun i s y h1 h2 => ?_, rfl⟩, ⟨rfl, ?_, ?_, ?_, ?_, ?_⟩, hm,
   ⟨rfl, rfl, rfl, Nat.le_refl _, fun _ _ _ => rfl⟩, Vw.init hm (fun n hn => by rw [List.mem_singleton.1 hn]; exact hVb)⟩
  ·match i with
   | 0 =>
    simp [stB] at h1
    rw [Array.getElem?_append_left (by simp)] at h2
    simp at h2
    subst h1; subst h2
    exact ⟨x, b, rfl, rfl, rfl⟩
   | i + 1 =>
    simp only [stB, List.getElem?_cons_succ] at h1
    have h2' : (vs.toArray ++ Array.replicate (fn.ntmps - (vs.length + 1)) undef)[i]? = some y := by
     simp only [List.size_toArray, List.length_cons] at h2
     rw [← h2]
     rw [Array.getElem?_append, Array.getElem?_append]
     simp
    rw [List.getElem?_append] at h1
    rw [Array.getElem?_append] at h2'
    simp only [List.size_toArray, ha.1] at h2'
    split at h1
    ·rw [if_pos ‹_›] at h2'
     exact (ha.2 i s y h1 (by simpa using h2')).mono (fun j z hz => by simp at hz) (View.le.refl V)
    ·rw [if_neg ‹_›] at h2'
     rw [List.getElem?_replicate] at h1
     rw [Array.getElem?_replicate] at h2'
     split at h1
     ·split at h2'
      ·cases h1; cases h2'; exact gG _ _
      ·cases h2'
     ·cases h1
  all_goals
   have key : ∀ (i : Nat) (c : HB) (z : Gh), (stB b ty ds args fn.ntmps).h[i]? = some c → [x][i]? = some z → i = 0 ∧ c = .pin b ty ds ∧ z = x := fun i c z h1 h2 => by
    match i with
    | 0 => simp [stB] at h1 h2; exact ⟨rfl, h1.symm, h2.symm⟩
    | i + 1 => simp at h2
  ·intro i c z h1 h2
   obtain ⟨rfl, rfl, rfl⟩ := key i c z h1 h2
   exact ⟨rfl, l, hheap, hcl⟩
  ·intro i c z h1 h2
   obtain ⟨rfl, rfl, rfl⟩ := key i c z h1 h2
   simp [ownB, x]
  ·intro i j c c' z z' hij h1 h2 h3 h4
   obtain ⟨rfl, _, _⟩ := key i c z h1 h2
   obtain ⟨rfl, _, _⟩ := key j c' z' h3 h4
   exact absurd rfl hij
  ·intro i c z h1 h2 n hn
   obtain ⟨rfl, rfl, rfl⟩ := key i c z h1 h2
   simp [ownB, x] at hn
   subst hn
   exact ⟨.inr (by simp [C]), hlt⟩
  ·intro i c z h1 h2 n hn
   obtain ⟨rfl, rfl, rfl⟩ := key i c z h1 h2
   simp [aY, x] at hn
   subst hn
   exact hVb
 refine wp_mono (h C b rfl [x] V _ w hr) fun e a' w' q => ?_
 cases e with
 | normal =>
  obtain ⟨g, V', st', hr', s, a0, hs, hret, hq, hp⟩ := q
  obtain ⟨g2, V2, hr2⟩ := hs g V' a' w' hr'
  obtain ⟨y, hy, hd⟩ := a3M (E := ⟨P, T, C, eqk⟩) hT rfl hr2 hres hret hp
  exact ⟨hr'.sl.defers, y, hy, y, a0, rfl, hq, hd⟩
 | ret =>
  obtain ⟨g, V', st', hr', s, a0, hs, hret, hq, hp⟩ := q
  obtain ⟨g2, V2, hr2⟩ := hs g V' a' w' hr'
  obtain ⟨y, hy, hd⟩ := a3M (E := ⟨P, T, C, eqk⟩) hT rfl hr2 hres hret hp
  exact ⟨hr'.sl.defers, y, hy, y, a0, rfl, hq, hd⟩
 | exit id => obtain ⟨g, V', st', hr', q⟩ := q; exact q.elim
 | goto l => exact q.elim
 | panic ch => exact q.elim
 | outgrown => exact q.elim
def a5g (ty : Nat) (ds : List D) : HB → Prop
 | .box ty' cs => ty' = ty ∧ cs = ds.map At.d
 | .pin _ ty' ds0 => ty' = ty ∧ ds0 = ds
 | _ => False
def reD (ds' : List D) : HB → HB
 | .box ty _ => .box ty (ds'.map At.d)
 | .pin b ty _ => .pin b ty ds'
 | b => b
theorem a9r {g : List Gh} {V : View} {w : World} {x : Gh} {B : HB} {ty : Nat} {ds : List D} (h : HBok g V w x B) (hB : a5g ty ds B) : ∃ b l, x.blk = some b ∧ ownB x B = [b] ∧ aY x B = [b] ∧ w.heap[b]? = some (.cells (List.toArray l) ty (0, 0)) ∧ cL [] V (ds.map At.d) l ∧
    ∀ (V' : View) (w' : World) (ds' : List D) (l' : List Value), w'.heap[b]? = some (.cells (List.toArray l') ty (0, 0)) → cL [] V' (ds'.map At.d) l' → (∀ g', HBok g' V' w' x (reD ds' B)) ∧ ownB x (reD ds' B) = [b] ∧ aY x (reD ds' B) = [b] := by
 cases B with
 | box ty' cs =>
  obtain ⟨rfl, rfl⟩ := hB
  obtain ⟨b, l, h1, h2, h3⟩ := h
  exact ⟨b, l, h1, by simp [ownB, h1], by simp [aY, h1], h2, cLd h3, fun V' w' ds' l' e1 e2 => ⟨fun g' => ⟨b, l', h1, e1, cLd e2⟩, by simp [reD, ownB, h1], by simp [reD, aY, h1]⟩⟩
 | pin pb ty' ds0 =>
  obtain ⟨rfl, rfl⟩ := hB
  obtain ⟨h1, l, h2, h3⟩ := h
  exact ⟨pb, l, h1, by simp [ownB, h1], by simp [aY, h1], h2, h3, fun V' w' ds' l' e1 e2 => ⟨fun g' => ⟨h1, l', e1, e2⟩, by simp [reD, ownB, h1], by simp [reD, aY, h1]⟩⟩
 | _ => exact hB.elim
theorem CallS.block {E : Env} {f ty id : Nat} {ds : List D} {args' rest : List SV} {α : Type} {Q : α → Prop} {res : α → SV} {ds' : α → List D} {st : St} {K : St → SV → Prop} (h : FnB E.P f ty ds args' Q res ds')
    (hid : a5g ty ds (bK st.h id)) (he : rest.map (eY st.h) = args') (hfree : args'.all bX = true)
    (k : ∀ a, Q a → K ⟨st.t, setH st.h id (reD (ds' a) (bK st.h id)) ++ adH (res a).all⟩ (adS (setH st.h id (reD (ds' a) (bK st.h id))).length (res a))) :
    CallS E f (.o (.p id 0) :: rest) st K := by
 refine ⟨h.enters, fun g V a w vs hr hlen hargs => ?_⟩
 have hi : st.h[id]? = some (bK st.h id) := aF rfl (fun e => by rw [e] at hid; exact hid)
 match vs, hlen, hargs with
 | y :: vs, hlen, hargs =>
  obtain ⟨x, b0, hx, hxb, rfl⟩ := hargs 0 _ y rfl rfl
  have hok := hr.hp.hb id _ x hi hx
  obtain ⟨b, l, q1, q2, q3, q4, q5, q6⟩ := a9r hok hid
  have e0 : b0 = b := by rw [hxb] at q1; exact Option.some.inj q1
  subst e0
  have hVb : V b0 = none := hr.hp.rt id _ x hi hx b0 (by rw [q3]; simp)
  have hlo := hr.hp.lo id _ x hi hx b0 (by rw [q2]; simp)
  have hc : lY V args' vs := by
   subst he
   refine ⟨by simpa using hlen, fun i s y h1 h2 => ?_⟩
   have hs := List.all_eq_true.1 hfree s (List.mem_of_getElem? h1)
   rw [List.getElem?_map] at h1
   cases hk : rest[i]? with
   | none => rw [hk] at h1; cases h1
   | some s0 =>
    rw [hk] at h1
    cases h1
    exact kJ (lQ hr (hargs (i + 1) s0 y (by simpa using hk) (by simpa using h2))) hs
  refine (h.calls V w b0 l vs (hr.fr.tab fun k hk => by rw [List.mem_singleton.1 hk]; exact hlo.1) hr.mod hVb hlo.2 q4 q5 hc).mono ?_
  rintro e w' ⟨y, a0, rfl, hQ, hgrown, V', S, l', hv, hm, hnew, ⟨lr, hshape, Ss, r1, r2, r3, r4⟩, hnd, hblk, hheap, hcl'⟩
  have hV'b : V' b0 = none := by
   cases hc : V' b0 with
   | none => rfl
   | some cs => have := (hnew b0 cs hc hVb).1; omega
  have hsz1 : (w'.setRow b0 l.toArray).heap.size = w'.heap.size := by simp [World.setRow]
  have hbel : Below w.heap.size w (w'.setRow b0 l.toArray) := ⟨hgrown.os, hgrown.tape, hgrown.output, by rw [hsz1]; exact hgrown.size, fun n hn => by
   by_cases e : n = b0
   ·subst e
    rw [setRow_heap w' n l'.toArray l.toArray ty (0, 0) hheap, q4]
   ·rw [setRow_other w' b0 n _ e]
    exact hgrown.block n hn fun h => e (Option.some.inj h)⟩
  have hm1 : Mod V' (w'.setRow b0 l.toArray) := fun n cs hn => by
   obtain ⟨c, ty', fz, e1, e2⟩ := hm n cs hn
   have hne : n ≠ b0 := fun e => by rw [e, hV'b] at hn; cases hn
   exact ⟨c, ty', fz, by rw [setRow_other w' b0 n _ hne]; exact e1, e2⟩
  have hr1 : Rel E.C g V' st a (w'.setRow b0 l.toArray) := hr.later hv hm1 hbel (fun n cs h1 h2 => by
   have := hnew n cs h1 h2
   have hne : n ≠ b0 := fun e => by rw [e, hV'b] at h1; cases h1
   obtain ⟨c, ty', e⟩ := this.2
   exact ⟨this.1, c, ty', by rw [setRow_other w' b0 n _ hne]; exact e⟩)
  obtain ⟨u1, u2, u3⟩ := q6 V' w' (ds' a0) l' hheap hcl'
  have hr2 := hr1.turnRow id (b' := reD (ds' a0) (bK st.h id)) (x' := x) hi hx (w' := w') rfl rfl rfl u1 (by rw [u2]; simp) (fun n hn => .inl (by rw [u2] at hn; rw [q2]; exact hn))
   (fun n hn => by rw [u3] at hn; simp only [List.mem_singleton] at hn; subst hn; exact hV'b)
   ⟨rfl, rfl, rfl, by rw [hsz1]; exact Nat.le_refl _, fun n hn hne => (setRow_other w' b0 n _ (fun e => hne (by rw [hxb, e]))).symm⟩ (fun n hn => by rw [q3]; rw [hxb] at hn; cases hn; simp)
  rw [← bO] at hr2
  have hgx : g.set id x = g := by
   apply List.ext_getElem?
   intro i
   rw [List.getElem?_set]
   split
   ·rename_i e
    subst e
    split
    ·exact hx.symm
    ·rename_i hn
     rw [List.getElem?_eq_none (by omega)]
   ·rfl
  rw [hgx] at hr2
  subst r3
  obtain ⟨g', h1, h2, h3⟩ := tN (cs := (res a0).all) hr2 r1 r2 r4 hnd (fun n hn => ⟨.inl (Nat.le_trans hr.fr.size (hblk n hn).1), (hblk n hn).2, fun i hb' z e1 e2 hm' => by
   have hlt : n < w.heap.size := by
    simp only [bO, List.getElem?_set] at e1
    split at e1
    ·rename_i e
     subst e
     split at e1
     ·cases e1
      rw [hx] at e2
      cases e2
      rw [u2] at hm'
      simp only [List.mem_singleton] at hm'
      subst hm'
      exact hlo.2
     ·cases e1
    ·exact (hr.hp.lo i hb' z e1 e2 n hm').2
   have := (hblk n hn).1
   omega⟩)
  refine ⟨y, g', V', _, _, rfl, h1, ?_, k a0 hQ⟩
  generalize setH st.h id (reD (ds' a0) (bK st.h id)) = hh at *
  generalize res a0 = res at *
  cases res with
  | o x =>
   have hl : lr = [y] := hshape
   subst hl
   simp only [SV.all] at h3
   simp only [adS]
   have hlen1 : (adA hh.length [x]).length = 1 := mE _ _
   match he' : adA hh.length [x], hlen1 with
   | [z], _ =>
    rw [he'] at h3
    exact h3.2 0 z y rfl rfl
  | g cs => exact ⟨lr, hshape, h3⟩
  | t cs =>
   obtain ⟨ls, e1, e2, e3, ys, e4, e5, e6⟩ := hshape
   subst e2
   refine ⟨ys, e4, by rw [e5, kK], fun i b c v hi hv' => ?_⟩
   have hlt : i < ls.length := by rw [e1, ← kK hh.length cs]; exact (List.getElem?_eq_some_iff.1 hi).1
   have hm' : ls[i]? = some ls[i] := List.getElem?_eq_getElem hlt
   obtain ⟨⟨c0, hc0⟩, hcc⟩ := uW hh.length cs ls e1 e3 h3 i b c _ hi hm'
   have := e6 i b c0 _ v hc0 hm' hv'
   cases b with
   | true => simp only [if_true] at this ⊢; exact ⟨_, this, hcc⟩
   | false => simp only [Bool.false_eq_true, if_false] at this ⊢; rw [← this]; exact hcc
structure FnN (P : Program) (f ty : Nat) (args : List SV) {α : Type} (Q : α → Prop) (ds' : α → List D) : Prop where
 enters : ∀ aS w, (callFunc f aS).run P w = .ok (.enter f aS) w
 calls : ∀ V w vs, tabOK w [] → Mod V w → lY V args vs → Calls P f vs.toArray w fun e w' => ∃ a b l V', e = .returned (.pointer (some ⟨b, 0, none⟩)) ∧ Q a ∧ V.le V' ∧ Mod V' w' ∧ (∀ n cs, V' n = some cs → V n = none → w.heap.size ≤ n ∧ Unf w' n) ∧ w.heap.size ≤ b ∧ b < w'.heap.size ∧ V' b = none ∧ w'.heap[b]? = some (.cells (List.toArray l) ty (0, 0)) ∧ cL [] V' ((ds' a).map At.d) l ∧ Below w.heap.size w w'
def b5I (E : Env) (rs : List ResultVar) (ty : Nat) {α : Type} (Q : α → Prop) (ds' : α → List D) : Ex → St → Prop
 | .exit _, _ => False
 | _, st => ∃ a id, Q a ∧ retVs E st rs = some [(false, [.p id 0])] ∧ bK st.h id = .box ty ((ds' a).map At.d)
theorem FnN.of_wp {P : Program} {T : Nat → Ty} {eqk : Nat → List Nat} (hT : TyOK P T) {f : Nat} {fn : Func} {c : Code} {rs : List ResultVar} {ty : Nat} {args : List SV} {α : Type} {Q : α → Prop} {ds' : α → List D}
    (hf : P.funcs[f]? = some fn) (hb : fn.body = some c) (hcall : ∀ aS w, (callFunc f aS).run P w = .ok (.enter f aS) w) (hres : fn.results = rs.toArray)
    (h : ∀ C : Ctx, C.X = [] → WP P C c (bN P C [] (b5I ⟨P, T, C, eqk⟩ rs ty Q ds')) (st0 args fn.ntmps)) : FnN P f ty args Q ds' := by
 refine ⟨hcall, fun V w vs htab hm ha => ?_⟩
 let C : Ctx := ⟨w, [], V, htab⟩
 refine calls_of_wp hf hb ?_
 have hr : Rel C [] V (st0 args fn.ntmps) { tmps := vs.toArray ++ Array.replicate (fn.ntmps - vs.toArray.size) undef, defers := [] } w := by
  refine ⟨⟨by simp [st0, ha.1], fun i s y h1 h2 => ?_, rfl⟩, ⟨rfl, fun i b x h => by simp [st0] at h, fun i b x h => by simp [st0] at h, fun i j b b' x x' _ h => by simp [st0] at h, fun i b x h => by simp [st0] at h, fun i b x h => by simp [st0] at h⟩, hm,
   ⟨rfl, rfl, rfl, Nat.le_refl _, fun _ _ _ => rfl⟩, Vw.init hm (fun n hn => by cases hn)⟩
  simp only [st0] at h1
  rw [List.getElem?_append] at h1
  rw [Array.getElem?_append] at h2
  simp only [List.size_toArray, ha.1] at h2
  split at h1
  ·rw [if_pos ‹_›] at h2
   exact ha.2 i s y h1 (by simpa using h2)
  ·rw [if_neg ‹_›] at h2
   rw [List.getElem?_replicate] at h1
   rw [Array.getElem?_replicate] at h2
   split at h1
   ·rw [if_pos ‹_›] at h2
    cases h1; cases h2; exact gG _ _
   ·cases h1
 refine wp_mono (h C rfl [] V _ w hr) fun e a' w' q => ?_
 have fin : ∀ (g : List Gh) (V' : View) (st : St), Rel C g V' st a' w' → (∃ a id, Q a ∧ retVs ⟨P, T, C, eqk⟩ st rs = some [(false, [.p id 0])] ∧ bK st.h id = .box ty ((ds' a).map At.d)) →
     ∃ y, (results fn a'.tmps).run P w' = .ok y w' ∧ ∃ a b l V', Ending.returned y = .returned (.pointer (some ⟨b, 0, none⟩)) ∧ Q a ∧ V.le V' ∧ Mod V' w' ∧ (∀ n cs, V' n = some cs → V n = none → w.heap.size ≤ n ∧ Unf w' n) ∧ w.heap.size ≤ b ∧ b < w'.heap.size ∧ V' b = none ∧ w'.heap[b]? = some (.cells (List.toArray l) ty (0, 0)) ∧ cL [] V' ((ds' a).map At.d) l ∧ Below w.heap.size w w' := by
  rintro g V' st hr' ⟨a, id, hq, h1, h2⟩
  obtain ⟨vs', ls, f1, f2, f3, f4, f5⟩ := nA (E := ⟨P, T, C, eqk⟩) hT hr' h1
  have f1' : (rs.mapM (rvM a')).run P w' = .ok vs' w' := by
   rw [← f1]
   congr 2
  match vs', ls, f2, f3 with
  | [v], [m], _, _ =>
   have hv := f4 0 false [.p id 0] m v rfl rfl rfl
   simp only [Bool.false_eq_true, if_false] at hv
   obtain ⟨hv1, hv2⟩ := hv
   have hv2 := hv2
   subst hv1
   have hp := f5.2 0 (.p id 0) v rfl rfl
   obtain ⟨x, b, hx, hxb, rfl⟩ := hp
   have hi := aF h2 (by simp)
   obtain ⟨b', l, e1, e2, e3⟩ := hr'.hp.hb id _ x hi hx
   have e0 : b = b' := by rw [hxb] at e1; exact Option.some.inj e1
   subst e0
   have hlo := hr'.hp.lo id _ x hi hx b (by simp [ownB, hxb])
   have hrt := hr'.hp.rt id _ x hi hx b (by simp [aY, hxb])
   refine ⟨_, jV hres f1', a, b, l, V', rfl, hq, hr'.vw.le, hr'.mod, fun n cs q1 q2 => ⟨by have := hr'.vw.fresh n cs q1 q2; simpa [C] using this, hr'.vw.unf n cs q1 q2⟩, by have := hlo.1; simpa [C] using this, hlo.2, hrt, e2, cLd e3, ⟨hr'.fr.os, hr'.fr.tape, hr'.fr.output, hr'.fr.size, fun k hk => hr'.fr.block k hk (by simp [C])⟩⟩
 cases e with
 | normal =>
  obtain ⟨g, V', st', hr', hret⟩ := q
  obtain ⟨y, hy, hd⟩ := fin g V' st' hr' hret
  exact ⟨hr'.sl.defers, y, hy, hd⟩
 | ret =>
  obtain ⟨g, V', st', hr', hret⟩ := q
  obtain ⟨y, hy, hd⟩ := fin g V' st' hr' hret
  exact ⟨hr'.sl.defers, y, hy, hd⟩
 | exit id => obtain ⟨g, V', st', hr', q⟩ := q; exact q.elim
 | goto l => exact q.elim
 | panic ch => exact q.elim
 | outgrown => exact q.elim
theorem CallS.newBlk {E : Env} {f ty : Nat} {args args' : List SV} {α : Type} {Q : α → Prop} {ds' : α → List D} {st : St} {K : St → SV → Prop} (h : FnN E.P f ty args' Q ds') (he : args.map (eY st.h) = args') (hfree : args'.all bX = true)
    (k : ∀ a, Q a → K ⟨st.t, st.h ++ [.box ty ((ds' a).map At.d)]⟩ (.o (.p st.h.length 0))) : CallS E f args st K := by
 refine ⟨h.enters, fun g V a w vs hr hlen hargs => ?_⟩
 subst he
 have hc : lY V (args.map (eY st.h)) vs := by
  refine ⟨by simp [hlen], fun i s y h1 h2 => ?_⟩
  have hs := List.all_eq_true.1 hfree s (List.mem_of_getElem? h1)
  rw [List.getElem?_map] at h1
  cases hk : args[i]? with
  | none => rw [hk] at h1; cases h1
  | some s0 =>
   rw [hk] at h1
   cases h1
   exact kJ (lQ hr (hargs i s0 y hk h2)) hs
 refine (h.calls V w vs hr.tab hr.mod hc).mono ?_
 rintro e w' ⟨a0, b, l, V', rfl, hQ, hv, hm, hnew, hge, hlt, hVb, hheap, hcl, hbel⟩
 have hr1 := hr.later hv hm hbel hnew
 let x : Gh := ⟨some b, undef, [], []⟩
 refine ⟨_, g ++ [x], V', ⟨st.t, st.h ++ [.box ty ((ds' a0).map At.d)]⟩, .o (.p st.h.length 0), rfl, ⟨hr1.sl.mono (GLe.push _ _) (View.le.refl V'), hr1.hp.push (b := .box ty ((ds' a0).map At.d)) (x := x) ⟨b, l, rfl, hheap, cLd hcl⟩ ?_ ?_ ?_ ?_, hr1.mod, hr1.fr, hr1.vw⟩, ⟨x, b, ?_, rfl, rfl⟩, k a0 hQ⟩
 ·simp [ownB, x]
 ·intro n hn
  simp [ownB, x] at hn
  subst hn
  exact ⟨.inl (Nat.le_trans hr.fr.size hge), hlt⟩
 ·intro i b' x' h1 h2 n hn hm'
  simp [ownB, x] at hm'
  subst hm'
  have := (hr.hp.lo i b' x' h1 h2 n hn).2
  omega
 ·intro n hn
  simp [aY, x] at hn
  subst hn
  exact hVb
 ·rw [List.getElem?_append_right (by rw [hr.hp.glen]; exact Nat.le_refl _), hr.hp.glen]; simp
theorem a6R {E : Env} {rs : List ResultVar} {ty : Nat} {α : Type} {Q : α → Prop} {ds' : α → List D} {st : St} (a : α) (id : Nat) (hq : Q a) (h1 : retVs E st rs = some [(false, [.p id 0])]) (h2 : bK st.h id = .box ty ((ds' a).map At.d)) : b5I E rs ty Q ds' .ret st := ⟨a, id, hq, h1, h2⟩
structure FnX (P : Program) (f : Nat) (args : List SV) {α : Type} (Q : α → Prop) (res : α → SV) : Prop where
 enters : ∀ aS w, (callFunc f aS).run P w = .ok (.enter f aS) w
 calls : ∀ V w vs, tabOK w [] → Mod V w → lY V args vs → Calls P f vs.toArray w fun e w' => ∃ y a, e = .returned y ∧ Q a ∧ Done V w (res a) y w'
def b5J (E : Env) (rs : List ResultVar) {α : Type} (Q : α → Prop) (res : α → SV) : Ex → St → Prop
 | .exit _, _ => False
 | _, st => ∃ st' a, Sees E.C st st' ∧ RetOK E st' rs (res a) ∧ Q a
theorem b2B {E : Env} {rs : List ResultVar} {α : Type} {Q : α → Prop} {res : α → SV} {st : St} (a : α) (h : RetOK E st rs (res a)) (hq : Q a) : b5J E rs Q res .ret st := ⟨st, a, Sees.refl _ _, h, hq⟩
theorem FnX.of_wp {P : Program} {T : Nat → Ty} {eqk : Nat → List Nat} (hT : TyOK P T) {f : Nat} {fn : Func} {c : Code} {rs : List ResultVar} {args : List SV} {α : Type} {Q : α → Prop} {res : α → SV}
    (hf : P.funcs[f]? = some fn) (hb : fn.body = some c) (hcall : ∀ aS w, (callFunc f aS).run P w = .ok (.enter f aS) w) (hres : fn.results = rs.toArray)
    (h : ∀ C : Ctx, C.X = [] → WP P C c (bN P C [] (b5J ⟨P, T, C, eqk⟩ rs Q res)) (st0 args fn.ntmps)) : FnX P f args Q res := by
 refine ⟨hcall, fun V w vs htab hm ha => ?_⟩
 let C : Ctx := ⟨w, [], V, htab⟩
 refine calls_of_wp hf hb ?_
 have hr : Rel C [] V (st0 args fn.ntmps) { tmps := vs.toArray ++ Array.replicate (fn.ntmps - vs.toArray.size) undef, defers := [] } w := by
  refine ⟨⟨by simp [st0, ha.1], fun i s y h1 h2 => ?_, rfl⟩, ⟨rfl, fun i b x h => by simp [st0] at h, fun i b x h => by simp [st0] at h, fun i j b b' x x' _ h => by simp [st0] at h, fun i b x h => by simp [st0] at h, fun i b x h => by simp [st0] at h⟩, hm,
   ⟨rfl, rfl, rfl, Nat.le_refl _, fun _ _ _ => rfl⟩, Vw.init hm (fun n hn => by cases hn)⟩
  simp only [st0] at h1
  rw [List.getElem?_append] at h1
  rw [Array.getElem?_append] at h2
  simp only [List.size_toArray, ha.1] at h2
  split at h1
  ·rw [if_pos ‹_›] at h2
   exact ha.2 i s y h1 (by simpa using h2)
  ·rw [if_neg ‹_›] at h2
   rw [List.getElem?_replicate] at h1
   rw [Array.getElem?_replicate] at h2
   split at h1
   ·rw [if_pos ‹_›] at h2
    cases h1; cases h2; exact gG _ _
   ·cases h1
 refine wp_mono (h C rfl [] V _ w hr) fun e a' w' q => ?_
 cases e with
 | normal =>
  obtain ⟨g, V', st', hr', s, a0, hs, hret, hq⟩ := q
  obtain ⟨g2, V2, hr2⟩ := hs g V' a' w' hr'
  obtain ⟨y, hy, hd⟩ := xZ (E := ⟨P, T, C, eqk⟩) hT rfl hr2 hres hret
  exact ⟨hr'.sl.defers, y, hy, y, a0, rfl, hq, hd⟩
 | ret =>
  obtain ⟨g, V', st', hr', s, a0, hs, hret, hq⟩ := q
  obtain ⟨g2, V2, hr2⟩ := hs g V' a' w' hr'
  obtain ⟨y, hy, hd⟩ := xZ (E := ⟨P, T, C, eqk⟩) hT rfl hr2 hres hret
  exact ⟨hr'.sl.defers, y, hy, y, a0, rfl, hq, hd⟩
 | exit id => obtain ⟨g, V', st', hr', q⟩ := q; exact q.elim
 | goto l => exact q.elim
 | panic ch => exact q.elim
 | outgrown => exact q.elim
theorem CallS.someX {E : Env} {f : Nat} {args args' : List SV} {α : Type} {Q : α → Prop} {res : α → SV} {st : St} {K : St → SV → Prop} (h : FnX E.P f args' Q res) (he : args.map (eY st.h) = args') (hfree : args'.all bX = true)
    (k : ∀ a, Q a → K ⟨st.t, st.h ++ adH (res a).all⟩ (adS st.h.length (res a))) : CallS E f args st K := by
 refine ⟨h.enters, fun g V a w vs hr hlen hargs => ?_⟩
 subst he
 have hc : lY V (args.map (eY st.h)) vs := by
  refine ⟨by simp [hlen], fun i s y h1 h2 => ?_⟩
  have hs := List.all_eq_true.1 hfree s (List.mem_of_getElem? h1)
  rw [List.getElem?_map] at h1
  cases hk : args[i]? with
  | none => rw [hk] at h1; cases h1
  | some s0 =>
   rw [hk] at h1
   cases h1
   exact kJ (lQ hr (hargs i s0 y hk h2)) hs
 refine (h.calls V w vs hr.tab hr.mod hc).mono ?_
 rintro e w' ⟨y, a0, rfl, hQ, ⟨V', S, hv, hm, hnew, ⟨l, hshape, Ss, r1, r2, r3, r4⟩, hnd, hblk⟩, hbelow⟩
 have hr1 := hr.later hv hm hbelow hnew
 subst r3
 obtain ⟨g', h1, h2, h3⟩ := tN (cs := (res a0).all) hr1 r1 r2 r4 hnd (fun b hb => ⟨.inl (Nat.le_trans hr.fr.size (hblk b hb).1), (hblk b hb).2, fun i hb' x e1 e2 hm' => by
  have := (hr.hp.lo i hb' x e1 e2 b hm').2
  have := (hblk b hb).1
  omega⟩)
 refine ⟨y, g', V', _, _, rfl, h1, ?_, k a0 hQ⟩
 generalize res a0 = res at *
 cases res with
 | o x =>
  have hl : l = [y] := hshape
  subst hl
  simp only [SV.all] at h3
  simp only [adS]
  have hlen1 : (adA st.h.length [x]).length = 1 := mE _ _
  match he' : adA st.h.length [x], hlen1 with
  | [z], _ =>
   rw [he'] at h3
   exact h3.2 0 z y rfl rfl
 | g cs => exact ⟨l, hshape, h3⟩
 | t cs =>
  obtain ⟨ls, e1, e2, e3, ys, e4, e5, e6⟩ := hshape
  subst e2
  refine ⟨ys, e4, by rw [e5, kK], fun i b c v hi hv' => ?_⟩
  have hlt : i < ls.length := by rw [e1, ← kK st.h.length cs]; exact (List.getElem?_eq_some_iff.1 hi).1
  have hm' : ls[i]? = some ls[i] := List.getElem?_eq_getElem hlt
  obtain ⟨⟨c0, hc0⟩, hcc⟩ := uW st.h.length cs ls e1 e3 h3 i b c _ hi hm'
  have := e6 i b c0 _ v hc0 hm' hv'
  cases b with
  | true => simp only [if_true] at this ⊢; exact ⟨_, this, hcc⟩
  | false => simp only [Bool.false_eq_true, if_false] at this ⊢; rw [← this]; exact hcc
end Go.Sx
end
section
namespace Go.Sx
open Go Go.RowKit
def a6S (op : BinOp) (k : IntKind) (a b : Int) : Int :=
 match op with
 | .add => k.wrap (a + b)
 | .sub => k.wrap (a - b)
 | .mul => k.wrap (a * b)
 | _ => 0
def a5h : BinOp → Bool
 | .add | .sub | .mul => true
 | _ => false
def a9s (E : Env) (op : Op) (st : St) (k : St → SV → Prop) : Prop :=
 match op with
 | .binOp bop t x y ty => match ev st x, ev st y with
  | .o (.d (.v (.int kx a))), .o (.d (.v (.int ky b))) => match a5h bop with
   | true => kx = ky ∧ k st (.o (.d (.v (.int kx (a6S bop kx a b)))))
   | false => cO E op st k
  | _, _ => cO E op st k
 | _ => cO E op st k
def a0s (E : Env) : List Oper → St → (St → Prop) → Prop
 | [], st, K => K st
 | o :: r, st, K => match o.guard with
  | none => a9s E o.op st fun st' s => a0s E r (st'.put o.dst s) K
  | some _ => False
theorem b0I {op : BinOp} {t : Nat} {k : IntKind} {a b : Int} (h : a5h op = true) (P : Program) (w : World) : (binOp op t (.int k a) (.int k b)).run P w = .ok (.int k (a6S op k a b)) w := by
 cases op <;> simp only [a5h, Bool.false_eq_true] at h
 all_goals simp [binOp, Op.intArith, a6S]
section
variable {E : Env} {g : List Gh} {V : View} {st : St} {a : Act} {w : World} {o : Oper} {k : St → SV → Prop} {K : Act → World → Prop} {Q : Exit → Act → World → Prop}
theorem b2C (hT : TyOK E.P E.T) (hE : ∀ t, E.eqk t ≠ [] → EqT E.P t (E.eqk t)) (h : a9s E o.op st k) (hr : Rel E.C g V st a w) (hK : gF E o a k K) : o.wp E.P a w K Q := by
 unfold a9s at h
 split at h
 ·rename_i bop t x y ty ho
  split at h
  ·rename_i kx m ky n e1 e2
   split at h
   ·rename_i hw
    obtain ⟨rfl, hk⟩ := h
    have hx := cZ hr.sl x
    have hy := cZ hr.sl y
    rw [e1] at hx
    rw [e2] at hy
    obtain ⟨hx, _⟩ := aR hx
    obtain ⟨hy, _⟩ := aR hy
    exact aL (jO ho _ (by rw [hx, hy]; exact a0f ..) (by rw [hx, hy]; exact b0I hw E.P w)) (hK g V st w _ _ hr (bQ g V _ rfl) hk)
   ·exact lK hT hE h hr hK
  ·exact lK hT hE h hr hK
 ·exact lK hT hE h hr hK
theorem b0J (hT : TyOK E.P E.T) (hE : ∀ t, E.eqk t ≠ [] → EqT E.P t (E.eqk t)) {all : List Oper} {Q : Exit → Act → World → Prop} {K : St → Prop} (hQ : ∀ g V st a w, Rel E.C g V st a w → K st → Q .normal a w) :
    ∀ {l : List Oper} {st : St} {g : List Gh} {V : View} {a : Act} {w : World}, a0s E l st K → Rel E.C g V st a w → wpList E.P all.toArray Q l a w := by
 intro l
 induction l with
 | nil => intro st g V a w h hr; exact hQ g V st a w hr h
 | cons o r ih =>
  intro st g V a w h hr
  simp only [a0s] at h
  cases hgd : o.guard with
  | none =>
   rw [hgd] at h
   refine wpList_plain hgd fun K' hK' => ?_
   exact b2C hT hE h hr fun g' V' st' w' s y hr' hs hk => hK' _ _ (ih hk (hr'.put o.dst hs))
  | some jb => rw [hgd] at h; exact h.elim
theorem a8f (hT : TyOK E.P E.T) (hE : ∀ t, E.eqk t ≠ [] → EqT E.P t (E.eqk t)) {id : Nat} {ops : List Oper} {F : Ex → St → Prop} {st : St} (h : a0s E ops st (F .normal)) : WP E.P E.C (.region id ops.toArray false) F st :=
 fun _ _ _ _ hr => wp_region_lit (b0J hT hE (fun g V st _ _ hr h => ⟨g, V, st, hr, h⟩) h hr)
end
theorem b0K (n : Int) : inR .i64 (IntKind.i64.wrap n) := by
 have e : IntKind.i64.wrap n = if n % 18446744073709551616 ≥ 9223372036854775808 then n % 18446744073709551616 - 18446744073709551616 else n % 18446744073709551616 := by
  unfold IntKind.wrap
  simp [IntKind.bits, IntKind.signed]
 rw [e]
 simp only [inR]
 split <;> omega
theorem a2u (a : Int) (M : Nat) (hM : M < 9223372036854775808) : 0 ≤ nV .and .i64 a (M : Int) ∧ nV .and .i64 a (M : Int) ≤ (M : Int) := by
 have hb : (BitVec.ofInt 64 (M : Int)).toNat = M := by
  rw [BitVec.ofInt_natCast, BitVec.toNat_ofNat]
  exact Nat.mod_eq_of_lt (by omega)
 have hle : (BitVec.ofInt 64 a &&& BitVec.ofInt 64 (M : Int)).toNat ≤ M := by
  rw [BitVec.toNat_and, hb]
  exact Nat.and_le_right
 have hid : IntKind.i64.wrap ((BitVec.ofInt 64 a &&& BitVec.ofInt 64 (M : Int)).toNat : Int) = ((BitVec.ofInt 64 a &&& BitVec.ofInt 64 (M : Int)).toNat : Int) := nL (by simp only [inR]; omega)
 show 0 ≤ IntKind.i64.wrap ((BitVec.ofInt 64 a &&& BitVec.ofInt 64 (M : Int)).toNat : Int) ∧ IntKind.i64.wrap ((BitVec.ofInt 64 a &&& BitVec.ofInt 64 (M : Int)).toNat : Int) ≤ (M : Int)
 rw [hid]
 omega
end Go.Sx
end
section
namespace Go.Proofs.YtgpoopjfkplilaaGreatDoor
open Go Go.Sx Go.RowKit Go.Proofs
attribute [go_sem] a5g reD stB a9s a0s a5h
theorem oD {f ty : Nat} {fn : Func} {c : Code} {rs : List ResultVar} {ds : List D} {args : List SV} {α : Type} {Q : α → Prop} {res : α → SV} {ds' : α → List D} (hf : Tryz.prog.funcs[f]? = some fn) (hb : fn.body = some c) (hcall : ∀ x w, (callFunc f x).run Tryz.prog w = .ok (.enter f x) w) (hres : fn.results = rs.toArray)
    (h : ∀ (C : Ctx) (b : Nat), WP Tryz.prog C c (bN Tryz.prog C [] (b2A (EV C) rs b ty Q res ds')) (stB b ty ds args fn.ntmps)) : FnB Tryz.prog f ty ds args Q res ds' := FnB.of_wp (eqk := eqk) zY hf hb hcall hres fun C b _ => h C b
theorem b8D {f ty : Nat} {fn : Func} {c : Code} {rs : List ResultVar} {args : List SV} {α : Type} {Q : α → Prop} {ds' : α → List D} (hf : Tryz.prog.funcs[f]? = some fn) (hb : fn.body = some c) (hcall : ∀ x w, (callFunc f x).run Tryz.prog w = .ok (.enter f x) w) (hres : fn.results = rs.toArray)
    (h : ∀ C : Ctx, WP Tryz.prog C c (bN Tryz.prog C [] (b5I (EV C) rs ty Q ds')) (st0 args fn.ntmps)) : FnN Tryz.prog f ty args Q ds' := FnN.of_wp (eqk := eqk) zY hf hb hcall hres fun C _ => h C
theorem zL {C : Ctx} {f ty id : Nat} {ds : List D} {args' rest : List SV} {α : Type} {Q : α → Prop} {res : α → SV} {ds' : α → List D} {st : St} {K : St → SV → Prop} (h : FnB Tryz.prog f ty ds args' Q res ds') (hid : a5g ty ds (bK st.h id)) (he : rest.map (eY st.h) = args') (hfree : args'.all bX = true)
    (k : ∀ a, Q a → K ⟨st.t, setH st.h id (reD (ds' a) (bK st.h id)) ++ adH (res a).all⟩ (adS (setH st.h id (reD (ds' a) (bK st.h id))).length (res a))) : CallT (EV C) f (.o (.p id 0) :: rest) st K ⟨⟩ := ⟨CallS.block (E := EV C) h hid he hfree k⟩
theorem b7q {C : Ctx} {f ty : Nat} {args args' : List SV} {α : Type} {Q : α → Prop} {ds' : α → List D} {st : St} {K : St → SV → Prop} (h : FnN Tryz.prog f ty args' Q ds') (he : args.map (eY st.h) = args') (hfree : args'.all bX = true)
    (k : ∀ a, Q a → K ⟨st.t, st.h ++ [.box ty ((ds' a).map At.d)]⟩ (.o (.p st.h.length 0))) : CallT (EV C) f args st K ⟨⟩ := ⟨CallS.newBlk (E := EV C) h he hfree k⟩
theorem b8E {f : Nat} {fn : Func} {c : Code} {rs : List ResultVar} {args : List SV} {α : Type} {Q : α → Prop} {res : α → SV} (hf : Tryz.prog.funcs[f]? = some fn) (hb : fn.body = some c) (hcall : ∀ x w, (callFunc f x).run Tryz.prog w = .ok (.enter f x) w) (hres : fn.results = rs.toArray)
    (h : ∀ C : Ctx, WP Tryz.prog C c (bN Tryz.prog C [] (b5J (EV C) rs Q res)) (st0 args fn.ntmps)) : FnX Tryz.prog f args Q res := FnX.of_wp (eqk := eqk) zY hf hb hcall hres fun C _ => h C
theorem b7r {C : Ctx} {f : Nat} {args args' : List SV} {α : Type} {Q : α → Prop} {res : α → SV} {st : St} {K : St → SV → Prop} (h : FnX Tryz.prog f args' Q res) (he : args.map (eY st.h) = args') (hfree : args'.all bX = true)
    (k : ∀ a, Q a → K ⟨st.t, st.h ++ adH (res a).all⟩ (adS st.h.length (res a))) : CallT (EV C) f args st K ⟨⟩ := ⟨CallS.someX (E := EV C) h he hfree k⟩
theorem b7s {C : Ctx} {f : Nat} {args : List SV} {st : St} {K : St → SV → Prop} (ids : List Nat) (k : CallT (EV C) f args ⟨st.t, bI st.h ids⟩ K ⟨⟩) : CallT (EV C) f args st K ⟨⟩ :=
 ⟨CallS.sees (E := EV C) (fun g V a w hr => by obtain ⟨g', V', h, _⟩ := gX ids hr; exact ⟨g', V', h⟩) (fun g V a w hr => by obtain ⟨g', V', h, h1, h2, _⟩ := gX ids hr; exact ⟨g', V', h, h1, h2⟩) k.out⟩
theorem b8F {C : Ctx} {id : Nat} {ops : List Oper} {F : Ex → St → Prop} {st : St} (h : a0s (EV C) ops st (F .normal)) : WP Tryz.prog C (.region id ops.toArray false) F st := a8f (E := EV C) zY a9S h
end Go.Proofs.YtgpoopjfkplilaaGreatDoor
end
section
set_option maxRecDepth 100000
set_option maxHeartbeats 4000000
namespace Go.Proofs.YtgpoopjfkplilaaGreatDoor
open Go Go.Sx Go.RowKit Go.Proofs
@[go_sem] def uN (n : Int) : List D := [.v (.int .u8 n)]
def wfU (l : List Int) : Prop := l.length ≤ 9223372036854775807 ∧ ∀ i ∈ l, inR .u8 i
theorem b8C {n : Nat} {r : List D} (h : ShD tt n 5 r) : ∃ i, r = uN i ∧ inR .u8 i := by
 match n, h with
 | n + 1, ⟨i, h, hi⟩ => exact ⟨i, h, hi⟩
theorem b7p {n : Nat} {r : List D} (h : ShD tt n 50 r) : ∃ l : List Int, r = [.sl (l.map uN)] ∧ wfU l := by
 match n, h with
 | n + 1, ⟨rows, h, hm, hr⟩ =>
  obtain ⟨l, rfl, hl⟩ := a6g uN (inR .u8) (fun r h => b8C (hr r h))
  exact ⟨l, h, by unfold maxLen at hm; simpa using hm, hl⟩
@[go_sem] def a2t (l : List Int) (i h : Int) : List D := [.sl (l.map uN), iv i, iv h]
theorem b0H (l : List Int) (hl : l.length ≤ 1048576) (hw : ∀ i ∈ l, inR .u8 i) : FnN Tryz.prog 46 120 [.o (.d (.sl (l.map uN)))] (fun h : Int => inR .i64 h) (fun h => a2t l 0 h) := by
 refine b8D Tryz.func46 rfl Tryz.call46 rfl (fun C => ?_); simp only [go_sem, st0, Tryz.ntmps46]
 refine aD ?_
 refine dB (α := Nat × Int) (fun x => [(4, oi x.1), (3, oi x.2)]) (fun _ => []) (fun x => x.1 ≤ l.length ∧ (0 ≤ x.2 ∧ x.2 ≤ 1200000000)) (fun x => l.length - x.1) (0, 94701 + l.length) (fun _ => ?_) ?_ ?_ (fun x hx => ?_)
 ·simp only [go_sem]
 ·simp only [go_sem]; simp
 ·exact ⟨Nat.zero_le _, by simp only; omega⟩
 ·obtain ⟨k, h⟩ := x
  obtain ⟨h1, h2, h3⟩ := hx
  simp only at h1 h2 h3
  simp only [go_sem]
  by_cases g1 : k < l.length
  ·have g1' : ((k : Int) < (l.length : Int)) = True := by simp [g1]
   have hb := hw l[k] (List.getElem_mem g1)
   simp only [inR] at hb
   by_cases g2 : (k : Int) < 4000
   ·have g2' : ((k : Int) < 4000) = True := by simp [g2]
    have hm : 0 ≤ nV .and .i64 (h * 131 + l[k] + 7) 1073741823 ∧ nV .and .i64 (h * 131 + l[k] + 7) 1073741823 ≤ 1073741823 := a2u (h * 131 + l[k] + 7) 1073741823 (by decide)
    have q0 := @g1; have q1 := @g1'; have q2 := @g2'; have q3 := @decide_true; refine jQ ?_
    refine aQ (k + 1, nV .and .i64 (h * 131 + l[k] + 7) 1073741823) ?_ ?_ ?_
    ·simp only [go_sem]; simp
    ·exact ⟨by simp only; omega, by simp only; omega⟩
    ·simp only; omega
   ·have g2' : ((k : Int) < 4000) = False := by simp [g2]
    have q0 := @g1'; have q1 := @g2'; have q2 := @decide_true; have q3 := @decide_false; refine jQ ?_
    exact a6R h 0 ⟨by omega, by omega⟩ (by simp only [go_sem]) (by simp only [go_sem])
  ·have g1' : ((k : Int) < (l.length : Int)) = False := by simp [g1]
   have q0 := @g1'; have q1 := @decide_false; refine jM ?_
   exact a6R h 0 ⟨by omega, by omega⟩ (by simp only [go_sem]) (by simp only [go_sem])
theorem zJ (l : List Int) (hl : l.length ≤ 1048576) (hw : ∀ i ∈ l, inR .u8 i) (i : Nat) (h : Int) (hi : i ≤ l.length) (hh : inR .i64 h) : FnB Tryz.prog 127 120 (a2t l i h) [] (fun x : Int × Nat × Int => (0 ≤ x.1 ∧ x.1 ≤ 255) ∧ (x.2.1 ≤ l.length ∧ inR .i64 x.2.2)) (fun x => oi x.1) (fun x => a2t l x.2.1 x.2.2) := by
 refine oD Tryz.func127 rfl Tryz.call127 rfl (fun C b => ?_); simp only [go_sem, Tryz.ntmps127]
 repeat' (with_reducible first | refine nX ?_ | (refine mX ?_; try simp only [go_sem]) | refine kD ?_ | refine aO ?_ | fail)
 refine reg ?_
 repeat' (with_reducible first | refine nX ?_ | (refine mX ?_; try simp only [go_sem]) | refine kD ?_ | refine aO ?_ | fail)
 refine b8F ?_
 simp only [go_sem]
 obtain ⟨h', hh', e⟩ : ∃ h', inR .i64 h' ∧ a6S .add .i64 (a6S .mul .i64 h 6364136223846793005) 1442695040888963407 = h' := ⟨_, b0K _, rfl⟩
 rw [e]
 have hx : 0 ≤ nV .and .i64 (nV .xor .i64 (a2H .i64 h' 33) (a2H .i64 h' 45)) 255 ∧ nV .and .i64 (nV .xor .i64 (a2H .i64 h' 33) (a2H .i64 h' 45)) 255 ≤ 255 := a2u _ 255 (by decide)
 simp only [inR] at hh'
 by_cases g : i < l.length
 ·have g' : ((i : Int) < (l.length : Int)) = True := by simp [g]
  have hb := hw l[i] (List.getElem_mem g)
  simp only [inR] at hb
  have q0 := @g; have q1 := @g'; have q2 := @decide_true; refine kI ?_
  have hy : ∀ a : Int, 0 ≤ nV .and .i64 a 255 ∧ nV .and .i64 a 255 ≤ 255 := fun a => a2u a 255 (by decide)
  exact aJ (nV .and .i64 (nV .and .i64 (nV .xor .i64 (a2H .i64 h' 33) (a2H .i64 h' 45)) 255 + l[i]) 255, i + 1, h') ⟨⟨_, rfl, by simp only [go_sem]⟩, trivial⟩ ⟨hy _, ⟨by simp only; omega, hh'⟩⟩ (by simp only [go_sem]; simp)
 ·have g' : ((i : Int) < (l.length : Int)) = False := by simp [g]
  have q0 := @g'; have q1 := @decide_false; refine jM ?_
  exact aJ (nV .and .i64 (nV .xor .i64 (a2H .i64 h' 33) (a2H .i64 h' 45)) 255, i, h') ⟨⟨_, rfl, by simp only [go_sem]⟩, trivial⟩ ⟨hx, ⟨hi, hh'⟩⟩ (by simp only [go_sem])
theorem zK (l : List Int) (hl : l.length ≤ 1048576) (hw : ∀ i ∈ l, inR .u8 i) (i : Nat) (h : Int) (hi : i ≤ l.length) (hh : inR .i64 h) (n : Int) (hn : 1 ≤ n) (hn2 : n ≤ 1000000000) : FnB Tryz.prog 84 120 (a2t l i h) [oi n] (fun x : Int × Nat × Int => (0 ≤ x.1 ∧ x.1 < n) ∧ (x.2.1 ≤ l.length ∧ inR .i64 x.2.2)) (fun x => oi x.1) (fun x => a2t l x.2.1 x.2.2) := by
 have hn0 : (n ≤ 0) = False := by simp; omega
 have hne : n ≠ 0 := by omega
 refine oD Tryz.func84 rfl Tryz.call84 rfl (fun C b => ?_); simp only [go_sem, Tryz.ntmps84]
 by_cases g : n ≤ 256
 ·have g' : (n ≤ 256) = True := by simp [g]
  have q0 := @hn0; have q1 := @g'; have q2 := @hne; have q3 := @decide_true; have q4 := @decide_false; refine vW ?_
  refine zL (zJ l hl hw i h hi hh) ⟨rfl, rfl⟩ rfl rfl ?_
  rintro ⟨x, i1, h1⟩ ⟨⟨b1, b2⟩, b3, b4⟩
  simp only at b1 b2 b3 b4
  simp only [go_sem]
  have q0 := @hne; refine iW ?_
  have q1 : 0 ≤ x.tmod n := Int.tmod_nonneg n b1
  have q2 : x.tmod n < n := Int.tmod_lt_of_pos x (by omega)
  exact aJ (x.tmod n, i1, h1) ⟨⟨_, rfl, by simp only [go_sem]⟩, trivial⟩ ⟨⟨q1, q2⟩, ⟨b3, b4⟩⟩ (by simp only [go_sem])
 ·have g' : (n ≤ 256) = False := by simp [g]
  have q0 := @hn0; have q1 := @g'; have q2 := @hne; have q3 := @decide_true; have q4 := @decide_false; refine vW ?_
  refine zL (zJ l hl hw i h hi hh) ⟨rfl, rfl⟩ rfl rfl ?_
  rintro ⟨x, i1, h1⟩ ⟨⟨b1, b2⟩, b3, b4⟩
  simp only at b1 b2 b3 b4
  simp only [go_sem]
  have q0 := @hne; refine iW ?_
  refine zL (zJ l hl hw i1 h1 b3 b4) ⟨rfl, rfl⟩ rfl rfl ?_
  rintro ⟨y, i2, h2⟩ ⟨⟨c1, c2⟩, c3, c4⟩
  simp only at c1 c2 c3 c4
  simp only [go_sem]
  have q0 := @hne; refine iW ?_
  refine zL (zJ l hl hw i2 h2 c3 c4) ⟨rfl, rfl⟩ rfl rfl ?_
  rintro ⟨z, i3, h3⟩ ⟨⟨d1, d2⟩, d3, d4⟩
  simp only at d1 d2 d3 d4
  simp only [go_sem]
  have q0 := @hne; refine iW ?_
  refine zL (zJ l hl hw i3 h3 d3 d4) ⟨rfl, rfl⟩ rfl rfl ?_
  rintro ⟨v, i4, h4⟩ ⟨⟨e1, e2⟩, e3, e4⟩
  simp only at e1 e2 e3 e4
  simp only [go_sem]
  have q0 := @hne; refine iW ?_
  have q1 : 0 ≤ (x * 16777216 + y * 65536 + z * 256 + v).tmod n := Int.tmod_nonneg n (by omega)
  have q2 : (x * 16777216 + y * 65536 + z * 256 + v).tmod n < n := Int.tmod_lt_of_pos _ (by omega)
  exact aJ ((x * 16777216 + y * 65536 + z * 256 + v).tmod n, i4, h4) ⟨⟨_, rfl, by simp only [go_sem]⟩, trivial⟩ ⟨⟨q1, q2⟩, ⟨e3, e4⟩⟩ (by simp only [go_sem])
end Go.Proofs.YtgpoopjfkplilaaGreatDoor
end
section
set_option maxRecDepth 100000
set_option maxHeartbeats 4000000
namespace Go.Sx
open Go Go.RowKit
def b2x {α : Type} (G : α → St) (Q : α → Prop) (F : Ex → St → Prop) : Ex → St → Prop
 | .normal, s => ∃ x, Q x ∧ (∃ (m : List (Nat × Nat)) (s' : St), swL s m = some s' ∧ s'.le (G x)) ∧ (G x).okB = true
 | .exit j, s => F (.exit j) s
 | .ret, s => F .ret s
theorem zI {P : Program} {C : Ctx} {ks : List Kn} {F : Ex → St → Prop} {st : St} {c c2 : Code} {α : Type} (M : α → List (Nat × SV)) (H : α → List (Nat × HB)) (Q : α → Prop) (h1 : WP P C c (bN P C [] (b2x (fun x => b1O c st (M x) (H x)) Q (bN P C (.code c2 :: ks) F))) st) (h2 : ∀ x, Q x → WP P C c2 (bN P C ks F) (b1O c st (M x) (H x))) : WP P C c (bN P C (.code c2 :: ks) F) st := fun g V a w hr =>
 wp_mono (h1 g V a w hr) fun e a w q => by
  cases e with
  | normal =>
   obtain ⟨g, V, s, hs, x, hq, ⟨m, s', hsw, hle⟩, hok⟩ := q
   obtain ⟨g', h1⟩ := hs.swL m hsw
   exact ⟨_, V, _, h1.forget hle hok, h2 x hq⟩
  | exit j => obtain ⟨g, V, s, hs, q⟩ := q; exact ⟨g, V, s, hs, q⟩
  | ret => obtain ⟨g, V, s, hs, q⟩ := q; exact ⟨g, V, s, hs, q⟩
  | goto l => exact q.elim
  | panic ch => exact q.elim
  | outgrown => exact q.elim
theorem dW {E : Env} {rs : List ResultVar} {b ty : Nat} {α : Type} {Q : α → Prop} {res : α → SV} {ds' : α → List D} {e : Ex} {st st' : St} (h : Sees E.C st st') (k : b2A E rs b ty Q res ds' e st') : b2A E rs b ty Q res ds' e st := by
 cases e with
 | exit j => exact k
 | ret => obtain ⟨s, a, h1, h2⟩ := k; exact ⟨s, a, h.trans h1, h2⟩
 | normal => obtain ⟨s, a, h1, h2⟩ := k; exact ⟨s, a, h.trans h1, h2⟩
theorem mV {α : Type} {G : α → St} {Q : α → Prop} {F : Ex → St → Prop} {s : St} (x : α) (hq : Q x) (h : s.le (G x)) (hb : (G x).okB = true) : b2x G Q F .normal s := ⟨x, hq, ⟨[], s, rfl, h⟩, hb⟩
theorem a1s {α : Type} {G : α → St} {Q : α → Prop} {F : Ex → St → Prop} {s s' : St} (m : List (Nat × Nat)) (x : α) (hq : Q x) (hs : swL s m = some s') (h : s'.le (G x)) (hb : (G x).okB = true) : b2x G Q F .normal s := ⟨x, hq, ⟨m, s', hs, h⟩, hb⟩
end Go.Sx
namespace Go.Proofs.YtgpoopjfkplilaaGreatDoor
open Go Go.Sx Go.RowKit Go.Proofs
theorem hF {C : Ctx} {f : Nat} {args : List SV} {h : List HB} {k : List HB → SV → Prop} (ids : List Nat) (c : CallH (EV C) f args (bI h ids) k ⟨⟩) : CallH (EV C) f args h k ⟨⟩ := by
 obtain ⟨β, Pb, h', s, h1, h2⟩ := c.out
 exact ⟨β, Pb, h', s, fun T => CallS.sees (E := EV C) (st := ⟨T, h⟩) (st' := ⟨T, bI h ids⟩) (fun g V a w hr => by obtain ⟨g', V', q, _⟩ := gX ids hr; exact ⟨g', V', q⟩) (fun g V a w hr => by obtain ⟨g', V', q, q1, q2, _⟩ := gX ids hr; exact ⟨g', V', q, q1, q2⟩) (h1 T), h2⟩
theorem hB {C : Ctx} {f ty id : Nat} {ds : List D} {args' rest : List SV} {α : Type} {Q : α → Prop} {res : α → SV} {ds' : α → List D} {h : List HB} {k : List HB → SV → Prop} (c : FnB Tryz.prog f ty ds args' Q res ds') (hid : a5g ty ds (bK h id)) (he : rest.map (eY h) = args') (hfree : args'.all bX = true)
    (k2 : ∀ a, Q a → k (setH h id (reD (ds' a) (bK h id)) ++ adH (res a).all) (adS (setH h id (reD (ds' a) (bK h id))).length (res a))) : CallH (EV C) f (.o (.p id 0) :: rest) h k ⟨⟩ :=
 ⟨α, Q, _, _, fun T => CallS.block (E := EV C) (st := ⟨T, h⟩) c hid he hfree fun a ha => ⟨a, ha, rfl, rfl⟩, k2⟩
theorem aU {C : Ctx} {f ty id : Nat} {ds : List D} {args' rest : List SV} {α : Type} {Q : α → Prop} {res : α → SV} {ds' : α → List D} {st : St} {K : St → SV → Prop} (c : FnB Tryz.prog f ty ds args' Q res ds') (hid : a5g ty ds (bK (bI st.h (dZ rest)) id)) (he : rest.map (eY (bI st.h (dZ rest))) = args') (hfree : args'.all bX = true)
    (k : ∀ a, Q a → K ⟨st.t, setH (bI st.h (dZ rest)) id (reD (ds' a) (bK (bI st.h (dZ rest)) id)) ++ adH (res a).all⟩ (adS (setH (bI st.h (dZ rest)) id (reD (ds' a) (bK (bI st.h (dZ rest)) id))).length (res a))) : CallT (EV C) f (.o (.p id 0) :: rest) st K ⟨⟩ := b7s (dZ rest) (zL c hid he hfree k)
theorem hZ {C : Ctx} {f ty id : Nat} {ds : List D} {args' rest : List SV} {α : Type} {Q : α → Prop} {res : α → SV} {ds' : α → List D} {h : List HB} {k : List HB → SV → Prop} (c : FnB Tryz.prog f ty ds args' Q res ds') (hid : a5g ty ds (bK (bI h (dZ rest)) id)) (he : rest.map (eY (bI h (dZ rest))) = args') (hfree : args'.all bX = true)
    (k2 : ∀ a, Q a → k (setH (bI h (dZ rest)) id (reD (ds' a) (bK (bI h (dZ rest)) id)) ++ adH (res a).all) (adS (setH (bI h (dZ rest)) id (reD (ds' a) (bK (bI h (dZ rest)) id))).length (res a))) : CallH (EV C) f (.o (.p id 0) :: rest) h k ⟨⟩ := hF (dZ rest) (hB c hid he hfree k2)
abbrev Drw (l : List Int) (f : Nat) (args : List SV) {T : Type} (Q : T → Prop) (res : T → SV) : Prop := ∀ (i : Nat) (h : Int), i ≤ l.length → inR .i64 h →
 FnB Tryz.prog f 120 (a2t l i h) args (fun x : T × Nat × Int => Q x.1 ∧ (x.2.1 ≤ l.length ∧ inR .i64 x.2.2)) (fun x => res x.1) (fun x => a2t l x.2.1 x.2.2)
def b8B {T : Type} (_ : T) : Prop := True
def iM (l : List Int) : Prop := l.length ≤ 1048576 ∧ ∀ i ∈ l, inR .u8 i
theorem fK {l : List Int} (hl : iM l) (n : Int) (hn : 1 ≤ n) (hn2 : n ≤ 1000000000) : Drw l 176 [oi n] (fun b : Bool => b8B b) (fun b => ob b) := by
 intro i h hi hh; refine oD Tryz.func176 rfl Tryz.call176 rfl (fun C b => ?_); simp only [go_sem, Tryz.ntmps176]
 refine aD ?_
 refine zL (zK l hl.1 hl.2 i h hi hh n hn hn2) ⟨rfl, rfl⟩ rfl rfl ?_
 rintro ⟨x, i1, h1⟩ ⟨⟨b1, b2⟩, b3, b4⟩
 simp only at b1 b2 b3 b4
 simp only [go_sem]
 refine aD ?_
 exact aJ (decide (x = 0), i1, h1) ⟨⟨_, rfl, by simp only [go_sem]⟩, trivial⟩ ⟨trivial, ⟨b3, b4⟩⟩ (by simp only [go_sem])
theorem aH {l : List Int} (hl : iM l) (n : Int) (hn : 1 ≤ n) (hn2 : n ≤ 1000000000) : Drw l 84 [oi n] (fun x : Int => 0 ≤ x ∧ x < n) (fun x => oi x) := fun i h hi hh => zK l hl.1 hl.2 i h hi hh n hn hn2
theorem cK {l : List Int} (hl : iM l) (ns : List ByteArray) (h0 : 1 ≤ ns.length) (h1 : ns.length ≤ 1000000000) : Drw l 134 [.o (.d (.sl (ns.map dL)))] (fun x : ByteArray => x ∈ ns) (fun x => os x) := by
 intro i h hi hh; refine oD Tryz.func134 rfl Tryz.call134 rfl (fun C b => ?_); simp only [go_sem, Tryz.ntmps134]
 refine aD ?_
 refine zL (zK l hl.1 hl.2 i h hi hh ns.length (by omega) (by omega)) ⟨rfl, rfl⟩ rfl rfl ?_
 rintro ⟨x, i1, h1⟩ ⟨⟨b1, b2⟩, b3, b4⟩
 simp only at b1 b2 b3 b4
 obtain ⟨k, rfl⟩ := Int.eq_ofNat_of_zero_le b1
 have hk : k < ns.length := by omega
 simp only [go_sem]
 have q0 := @hk; refine iW ?_
 exact aJ (ns[k], i1, h1) ⟨⟨_, rfl, by simp only [go_sem]⟩, trivial⟩ ⟨List.getElem_mem hk, ⟨b3, b4⟩⟩ (by simp only [go_sem])
theorem fJ {l : List Int} (hl : iM l) (ns : List Int) (h0 : 1 ≤ ns.length) (h1 : ns.length ≤ 1000000000) : Drw l 128 [.o (.d (.sl (ns.map yQ)))] (fun x : Int => x ∈ ns) (fun x => oi x) := by
 intro i h hi hh; refine oD Tryz.func128 rfl Tryz.call128 rfl (fun C b => ?_); simp only [go_sem, Tryz.ntmps128]
 refine aD ?_
 refine zL (zK l hl.1 hl.2 i h hi hh ns.length (by omega) (by omega)) ⟨rfl, rfl⟩ rfl rfl ?_
 rintro ⟨x, i1, h1⟩ ⟨⟨b1, b2⟩, b3, b4⟩
 simp only at b1 b2 b3 b4
 obtain ⟨k, rfl⟩ := Int.eq_ofNat_of_zero_le b1
 have hk : k < ns.length := by omega
 simp only [go_sem]
 have q0 := @hk; refine iW ?_
 exact aJ (ns[k], i1, h1) ⟨⟨_, rfl, by simp only [go_sem]⟩, trivial⟩ ⟨List.getElem_mem hk, ⟨b3, b4⟩⟩ (by simp only [go_sem])
theorem nS (n : Int) : FnC Tryz.prog 157 [oi n] (lC ⟨1, n, ⟨#[]⟩⟩) := by
 refine ent Tryz.func157 rfl Tryz.call157 rfl (fun C => ?_); simp only [go_sem, st0, Tryz.ntmps157]
 refine aD ?_
 exact aA ⟨⟨_, rfl, by simp only [go_sem]⟩, trivial⟩
theorem qE (s : ByteArray) : FnC Tryz.prog 156 [os s] (lC ⟨2, 0, s⟩) := by
 refine ent Tryz.func156 rfl Tryz.call156 rfl (fun C => ?_); simp only [go_sem, st0, Tryz.ntmps156]
 refine aD ?_
 exact aA ⟨⟨_, rfl, by simp only [go_sem]⟩, trivial⟩
def w1 (s : ByteArray) : Prop := s.size ≤ 6
@[go_sem] def b5F : List ByteArray := [⟨#[97]⟩, ⟨#[98]⟩, ⟨#[110]⟩, ⟨#[116]⟩, ⟨#[97]⟩, ⟨#[98]⟩, ⟨#[116]⟩, ⟨#[122]⟩, ⟨#[65]⟩, ⟨#[]⟩]
theorem b5G : ∀ s ∈ b5F, s.size ≤ 6 := by decide +kernel
theorem rP {l : List Int} (hl : iM l) : Drw l 178 [] (fun s : ByteArray => w1 s) (fun s => os s) := by
 intro i h hi hh; refine oD Tryz.func178 rfl Tryz.call178 rfl (fun C b => ?_); simp only [go_sem, Tryz.ntmps178]
 refine aD ?_
 first | (refine aU (cK hl b5F (by decide) (by decide) i h hi hh) ⟨rfl, rfl⟩ ?_ rfl ?_; (focus first | rfl | (simp only [go_sem]; done))) | (refine hZ (cK hl b5F (by decide) (by decide) i h hi hh) ⟨rfl, rfl⟩ ?_ rfl ?_; (focus first | rfl | (simp only [go_sem]; done)))
 clear hi hh; rintro ⟨s, i, h⟩ ⟨hs, hi, hh⟩; simp only at hs hi hh; simp only [go_sem]
 refine aD ?_
 exact aJ (s, i, h) ⟨⟨_, rfl, by simp only [go_sem]⟩, trivial⟩ ⟨b5G s hs, ⟨hi, hh⟩⟩ (by simp only [go_sem])
@[go_sem] def b9d : List ByteArray := [⟨#[100, 97]⟩, ⟨#[100, 98]⟩, ⟨#[100, 99]⟩, ⟨#[100, 100]⟩, ⟨#[100, 101]⟩, ⟨#[122, 122]⟩, ⟨#[]⟩]
@[go_sem] def nm9 : List ByteArray := [⟨#[100, 97]⟩, ⟨#[100, 98]⟩, ⟨#[100, 99]⟩, ⟨#[100, 100]⟩, ⟨#[100, 97]⟩, ⟨#[100, 98]⟩, ⟨#[100, 99]⟩]
theorem b7o : ∀ s ∈ nm9, s.size ≤ 6 := by decide +kernel
theorem iP {l : List Int} (hl : iM l) : Drw l 225 [] (fun s : ByteArray => w1 s) (fun s => os s) := by
 intro i h hi hh; refine oD Tryz.func225 rfl Tryz.call225 rfl (fun C b => ?_); simp only [go_sem, Tryz.ntmps225]
 refine aD ?_
 first | (refine aU (cK hl nm9 (by decide) (by decide) i h hi hh) ⟨rfl, rfl⟩ ?_ rfl ?_; (focus first | rfl | (simp only [go_sem]; done))) | (refine hZ (cK hl nm9 (by decide) (by decide) i h hi hh) ⟨rfl, rfl⟩ ?_ rfl ?_; (focus first | rfl | (simp only [go_sem]; done)))
 clear hi hh; rintro ⟨s, i, h⟩ ⟨hs, hi, hh⟩; simp only at hs hi hh; simp only [go_sem]
 refine aD ?_
 exact aJ (s, i, h) ⟨⟨_, rfl, by simp only [go_sem]⟩, trivial⟩ ⟨b7o s hs, ⟨hi, hh⟩⟩ (by simp only [go_sem])
@[go_sem] def us6 : List Int := [0, 1, 2, 0, 1, 3, -1]
@[go_sem] def id5 : List Int := [1, 2, 3, 4, 5, 2, 3, 9, 0, -1, 9223372036854775807]
structure valD (v : TValue) : Prop where
 w : v.fStr.size ≤ 7
 k : inR .i64 v.fKind
 n : inR .i64 v.fInt
@[go_sem] def wd3 : List ByteArray := [⟨#[114, 101, 100]⟩, ⟨#[98, 108, 117, 101]⟩, ⟨#[105, 110, 107]⟩]
theorem in0 : inR .i64 0 := by simp [inR]
theorem in1 : inR .i64 1 := by simp [inR]
theorem in2 : inR .i64 2 := by simp [inR]
theorem b2y {x : Int} (h : inR .i64 x) : valD ⟨1, x, ⟨#[]⟩⟩ := ⟨Nat.zero_le 7, in1, h⟩
theorem b2z {s : ByteArray} (h : s.size ≤ 7) : valD ⟨2, 0, s⟩ := ⟨h, in2, in0⟩
theorem b5H : valD ⟨0, 0, ⟨#[]⟩⟩ := ⟨Nat.zero_le 7, in0, in0⟩
theorem a0Q {l : List Int} (hl : iM l) : Drw l 224 [] (fun v : TValue => valD v) (fun v => lC v) := by
 intro i h hi hh; refine oD Tryz.func224 rfl Tryz.call224 rfl (fun C b => ?_); simp only [go_sem, Tryz.ntmps224]
 refine aD ?_
 first | (refine aU (aH hl 5 (by decide) (by decide) i h hi hh) ⟨rfl, rfl⟩ ?_ rfl ?_; (focus first | rfl | (simp only [go_sem]; done))) | (refine hZ (aH hl 5 (by decide) (by decide) i h hi hh) ⟨rfl, rfl⟩ ?_ rfl ?_; (focus first | rfl | (simp only [go_sem]; done)))
 clear hi hh; rintro ⟨k, i, h⟩ ⟨hk, hi, hh⟩; simp only at hk hi hh; simp only [go_sem]
 have h5 : k = 0 ∨ k = 1 ∨ k = 2 ∨ k = 3 ∨ k = 4 := by omega
 rcases h5 with rfl | rfl | rfl | rfl | rfl
 ·refine aD ?_
  exact aJ (⟨0, 0, ⟨#[]⟩⟩, i, h) ⟨⟨_, rfl, by simp only [go_sem]⟩, trivial⟩ ⟨b5H, ⟨hi, hh⟩⟩ (by simp only [go_sem])
 ·refine aD ?_
  first | (refine aU (aH hl 5 (by decide) (by decide) i h hi hh) ⟨rfl, rfl⟩ ?_ rfl ?_; (focus first | rfl | (simp only [go_sem]; done))) | (refine hZ (aH hl 5 (by decide) (by decide) i h hi hh) ⟨rfl, rfl⟩ ?_ rfl ?_; (focus first | rfl | (simp only [go_sem]; done)))
  clear hi hh; rintro ⟨x, i, h⟩ ⟨hx, hi, hh⟩; simp only at hx hi hh; simp only [go_sem]
  refine kS (nS x) ?_
  exact aJ (⟨1, x, ⟨#[]⟩⟩, i, h) ⟨⟨_, rfl, by simp only [go_sem]⟩, trivial⟩ ⟨b2y (by simp only [inR]; omega), ⟨hi, hh⟩⟩ (by simp only [go_sem])
 ·refine aD ?_
  first | (refine aU (aH hl 5 (by decide) (by decide) i h hi hh) ⟨rfl, rfl⟩ ?_ rfl ?_; (focus first | rfl | (simp only [go_sem]; done))) | (refine hZ (aH hl 5 (by decide) (by decide) i h hi hh) ⟨rfl, rfl⟩ ?_ rfl ?_; (focus first | rfl | (simp only [go_sem]; done)))
  clear hi hh; rintro ⟨x, i, h⟩ ⟨hx, hi, hh⟩; simp only at hx hi hh; simp only [go_sem]
  refine kS (nS x) ?_
  exact aJ (⟨1, x, ⟨#[]⟩⟩, i, h) ⟨⟨_, rfl, by simp only [go_sem]⟩, trivial⟩ ⟨b2y (by simp only [inR]; omega), ⟨hi, hh⟩⟩ (by simp only [go_sem])
 ·refine aD ?_
  first | (refine aU (cK hl wd3 (by decide) (by decide) i h hi hh) ⟨rfl, rfl⟩ ?_ rfl ?_; (focus first | rfl | (simp only [go_sem]; done))) | (refine hZ (cK hl wd3 (by decide) (by decide) i h hi hh) ⟨rfl, rfl⟩ ?_ rfl ?_; (focus first | rfl | (simp only [go_sem]; done)))
  clear hi hh; rintro ⟨s, i, h⟩ ⟨hs, hi, hh⟩; simp only at hs hi hh; simp only [go_sem]
  have hw := (by decide +kernel : ∀ s ∈ wd3, s.size ≤ 7) s hs
  refine kS (qE s) ?_
  exact aJ (⟨2, 0, s⟩, i, h) ⟨⟨_, rfl, by simp only [go_sem]⟩, trivial⟩ ⟨b2z hw, ⟨hi, hh⟩⟩ (by simp only [go_sem])
 ·refine aD ?_
  first | (refine aU (cK hl wd3 (by decide) (by decide) i h hi hh) ⟨rfl, rfl⟩ ?_ rfl ?_; (focus first | rfl | (simp only [go_sem]; done))) | (refine hZ (cK hl wd3 (by decide) (by decide) i h hi hh) ⟨rfl, rfl⟩ ?_ rfl ?_; (focus first | rfl | (simp only [go_sem]; done)))
  clear hi hh; rintro ⟨s, i, h⟩ ⟨hs, hi, hh⟩; simp only at hs hi hh; simp only [go_sem]
  have hw := (by decide +kernel : ∀ s ∈ wd3, s.size ≤ 7) s hs
  refine kS (qE s) ?_
  exact aJ (⟨2, 0, s⟩, i, h) ⟨⟨_, rfl, by simp only [go_sem]⟩, trivial⟩ ⟨b2z hw, ⟨hi, hh⟩⟩ (by simp only [go_sem])
end Go.Proofs.YtgpoopjfkplilaaGreatDoor
end
