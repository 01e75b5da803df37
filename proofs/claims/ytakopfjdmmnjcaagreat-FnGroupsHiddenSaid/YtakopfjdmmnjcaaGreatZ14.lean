/- Joined texts. -/
import Derived.Test.YtakopfjdmmnjcaaGreatZ13
import Derived.Ground.NamesProg
import Derived.Ground.Names2Prog
import Derived.Shelf.Sort.Plain
import Derived.Shelf.Slices.In.SortNone
import Derived.Shelf.Slices.CompactI
import Derived.Shelf.Slices.CompactS
import Derived.Test.YtakopfjdmmnjcaaGreatProg
import Derived.Shelf.SlGeneric
import Derived.Shelf.SlSortCmp.KitK
import Derived.Shelf.SlicesQ.IndexFunc
import Derived.Ground.SlsfProg
import Derived.Ground.SlgfProg
import Derived.Test.YtakopfjdmmnjcaaGreatZ08
import Derived.Test.YtakopfjdmmnjcaaGreatZ07
import Derived.Test.YtakopfjdmmnjcaaGreatZ09
import Derived.Test.YtakopfjdmmnjcaaGreatZ11
import Derived.Test.YtakopfjdmmnjcaaGreatZ04
set_option linter.all false
section
set_option maxRecDepth 100000
set_option maxHeartbeats 4000000
namespace Go.Sx
open Go Go.RowKit
theorem CallS.nilArg {E : Env} {f : Nat} {a0 : SV} {rest : List SV} {st : St} {K : St → SV → Prop} (ty sz : Nat) (h : CallS E f (a0 :: .o (.s st.h.length) :: rest) (st.push (.row ty sz [] true)) K) : CallS E f (a0 :: .o .z :: rest) st K :=
 ⟨h.1, fun g V a w vs hr hl ha => h.2 _ V a w vs (hr.nilRow ty sz) (by simpa using hl) fun i s y e1 e2 => by
  match i with
  | 0 => exact (ha 0 s y e1 e2).mono (GLe.push _ _) (View.le.refl V)
  | 1 =>
   simp only [List.getElem?_cons_succ, List.getElem?_cons_zero, Option.some.injEq] at e1
   subst e1
   have hz : y = .slice none 0 0 := ha 1 (.o .z) y rfl e2
   subst hz
   exact ⟨⟨none, .slice none 0 0, [], []⟩, by rw [← hr.hp.glen, List.getElem?_append_right (Nat.le_refl _)]; simp, rfl, rfl⟩
  | i + 2 => exact (ha (i + 2) s y (by simpa using e1) e2).mono (GLe.push _ _) (View.le.refl V)⟩
end Go.Sx
namespace Go.Proofs.YtakopfjdmmnjcaaGreat
open Go Go.Sx Go.RowKit Go.Proofs
theorem b7E {f ty : Nat} {fn : Func} {c : Code} {rs : List ResultVar} {ds : List D} {tyR sz : Nat} {rows : List (List D)} {args : List SV} {α : Type} {Q : α → Prop} {rows' : α → List (List D)} {ds' : α → List D} (hf : Tryz.prog.funcs[f]? = some fn) (hb : fn.body = some c) (hcall : ∀ x w, (callFunc f x).run Tryz.prog w = .ok (.enter f x) w) (hres : fn.results = rs.toArray)
    (h : ∀ (C : Ctx) (b : Nat), WP Tryz.prog C c (bZ Tryz.prog C [] (b6v (EV C) rs b ty tyR sz Q rows' ds')) (stG b ty ds tyR sz rows args fn.ntmps)) : FnG Tryz.prog f ty ds tyR sz rows args Q rows' ds' := FnG.of_wp (eqk := eqk) ttOK hf hb hcall hres h
theorem a4I {C : Ctx} {f ty id id2 : Nat} {ds : List D} {tyR sz : Nat} {rows : List (List D)} {args' rest : List SV} {α : Type} {Q : α → Prop} {rows' : α → List (List D)} {ds' : α → List D} {st : St} {K : St → SV → Prop} (h : FnG Tryz.prog f ty ds tyR sz rows args' Q rows' ds')
    (hid : a5H ty ds (bO st.h id)) (hid2 : bO st.h id2 = .row tyR sz rows true) (hflat : fV rows = true) (he : rest.map (eB st.h) = args') (hfree : args'.all bL = true)
    (k : ∀ a, Q a → K ⟨st.t, setH (eQ st.h [id2]) id (reD (ds' a) (bO st.h id)) ++ adH [.w tyR sz (rows' a)]⟩ (adS (setH (eQ st.h [id2]) id (reD (ds' a) (bO st.h id))).length (.o (.w tyR sz (rows' a))))) : CallT (EV C) f (.o (.p id 0) :: .o (.s id2) :: rest) st K ⟨⟩ := ⟨CallS.giveB (E := EV C) h hid hid2 hflat he hfree k⟩
theorem b6t {C : Ctx} {f : Nat} {a0 : SV} {rest : List SV} {st : St} {K : St → SV → Prop} (ty sz : Nat) (h : CallT (EV C) f (a0 :: .o (.s st.h.length) :: rest) ⟨st.t, st.h ++ [.row ty sz [] true]⟩ K ⟨⟩) : CallT (EV C) f (a0 :: .o .z :: rest) st K ⟨⟩ := ⟨CallS.nilArg (E := EV C) ty sz h.out⟩
structure nodeD (n : TNode) : Prop where
 nm : n.fName.size ≤ 7
 vs : n.fValue.fStr.size ≤ 7
 wf : b2H n
@[go_sem] def nmF : List ByteArray := [⟨#[97]⟩, ⟨#[98]⟩, ⟨#[110]⟩, ⟨#[116]⟩]
@[go_sem] def wdF : List ByteArray := [⟨#[114, 101, 100]⟩, ⟨#[98, 108, 117, 101]⟩]
@[go_sem] def nmL : List ByteArray := [⟨#[97]⟩, ⟨#[98]⟩]
theorem gQ {op a b k x : Int} {nm s : ByteArray} (h1 : inR .i64 op) (h2 : inR .i64 a) (h3 : inR .i64 b) (h4 : nm.size ≤ 7) (h5 : inR .i64 k) (h6 : inR .i64 x) (h7 : s.size ≤ 7) : nodeD ⟨op, a, b, nm, ⟨k, x, s⟩⟩ :=
 ⟨h4, h7, h1, h2, h3, (show nm.size ≤ _ by omega), h5, h6, (show s.size ≤ _ by omega)⟩
theorem inS {x : Int} (h : -10 ≤ x ∧ x ≤ 1000) : inR .i64 x := by simp only [inR]; omega
theorem uG {l : List Int} (hl : iT l) : Drw l 162 [] (fun n : TNode => nodeD n) (fun n => a9Q n) := by
 intro i h hi hh; refine rY Tryz.func162 rfl Tryz.call162 rfl (fun C b => ?_); simp only [go_sem, Tryz.ntmps162]
 refine aD ?_
 first | (refine bE (aH hl 9 (by decide) (by decide) i h hi hh) ⟨rfl, rfl⟩ ?_ rfl ?_; (focus first | rfl | (simp only [go_sem]; done))) | (refine hZ (aH hl 9 (by decide) (by decide) i h hi hh) ⟨rfl, rfl⟩ ?_ rfl ?_; (focus first | rfl | (simp only [go_sem]; done)))
 clear hi hh; rintro ⟨k, i, h⟩ ⟨hk, hi, hh⟩; simp only at hk hi hh; simp only [go_sem]
 have z0 : (⟨#[]⟩ : ByteArray).size ≤ 7 := Nat.zero_le _
 have h9 : k = 0 ∨ k = 1 ∨ k = 2 ∨ k = 3 ∨ k = 4 ∨ k = 5 ∨ k = 6 ∨ k = 7 ∨ k = 8 := by omega
 rcases h9 with rfl | rfl | rfl | rfl | rfl | rfl | rfl | rfl | rfl
 ·refine aD ?_
  exact aN (⟨1, 0, 0, ⟨#[]⟩, ⟨0, 0, ⟨#[]⟩⟩⟩, i, h) ⟨⟨_, rfl, by simp only [go_sem]⟩, trivial⟩ ⟨gQ (inS (by decide)) in0 in0 z0 in0 in0 z0, ⟨hi, hh⟩⟩ (by simp only [go_sem])
 ·refine aD ?_
  first | (refine bE (dX hl nmF (by decide) (by decide) i h hi hh) ⟨rfl, rfl⟩ ?_ rfl ?_; (focus first | rfl | (simp only [go_sem]; done))) | (refine hZ (dX hl nmF (by decide) (by decide) i h hi hh) ⟨rfl, rfl⟩ ?_ rfl ?_; (focus first | rfl | (simp only [go_sem]; done)))
  clear hi hh; rintro ⟨s, i, h⟩ ⟨hs, hi, hh⟩; simp only at hs hi hh; simp only [go_sem]
  have hw := (by decide +kernel : ∀ s ∈ nmF, s.size ≤ 7) s hs
  refine aD ?_
  exact aN (⟨2, 0, 0, s, ⟨0, 0, ⟨#[]⟩⟩⟩, i, h) ⟨⟨_, rfl, by simp only [go_sem]⟩, trivial⟩ ⟨gQ (inS (by decide)) in0 in0 hw in0 in0 z0, ⟨hi, hh⟩⟩ (by simp only [go_sem])
 ·refine aD ?_
  first | (refine bE (aH hl 4 (by decide) (by decide) i h hi hh) ⟨rfl, rfl⟩ ?_ rfl ?_; (focus first | rfl | (simp only [go_sem]; done))) | (refine hZ (aH hl 4 (by decide) (by decide) i h hi hh) ⟨rfl, rfl⟩ ?_ rfl ?_; (focus first | rfl | (simp only [go_sem]; done)))
  clear hi hh; rintro ⟨x, i, h⟩ ⟨hx, hi, hh⟩; simp only at hx hi hh; simp only [go_sem]
  refine iZ (oZ x) ?_
  exact aN (⟨3, 0, 0, ⟨#[97]⟩, ⟨1, x, ⟨#[]⟩⟩⟩, i, h) ⟨⟨_, rfl, by simp only [go_sem]⟩, trivial⟩ ⟨gQ (inS (by decide)) in0 in0 (by decide) in1 (inS (by omega)) z0, ⟨hi, hh⟩⟩ (by simp only [go_sem])
 ·refine aD ?_
  first | (refine bE (dX hl wdF (by decide) (by decide) i h hi hh) ⟨rfl, rfl⟩ ?_ rfl ?_; (focus first | rfl | (simp only [go_sem]; done))) | (refine hZ (dX hl wdF (by decide) (by decide) i h hi hh) ⟨rfl, rfl⟩ ?_ rfl ?_; (focus first | rfl | (simp only [go_sem]; done)))
  clear hi hh; rintro ⟨s, i, h⟩ ⟨hs, hi, hh⟩; simp only at hs hi hh; simp only [go_sem]
  have hw := (by decide +kernel : ∀ s ∈ wdF, s.size ≤ 7) s hs
  refine iZ (rW s) ?_
  exact aN (⟨3, 0, 0, ⟨#[116]⟩, ⟨2, 0, s⟩⟩, i, h) ⟨⟨_, rfl, by simp only [go_sem]⟩, trivial⟩ ⟨gQ (inS (by decide)) in0 in0 (by decide) in2 in0 hw, ⟨hi, hh⟩⟩ (by simp only [go_sem])
 ·refine aD ?_
  first | (refine bE (dX hl nmL (by decide) (by decide) i h hi hh) ⟨rfl, rfl⟩ ?_ rfl ?_; (focus first | rfl | (simp only [go_sem]; done))) | (refine hZ (dX hl nmL (by decide) (by decide) i h hi hh) ⟨rfl, rfl⟩ ?_ rfl ?_; (focus first | rfl | (simp only [go_sem]; done)))
  clear hi hh; rintro ⟨s, i, h⟩ ⟨hs, hi, hh⟩; simp only at hs hi hh; simp only [go_sem]
  have hw := (by decide +kernel : ∀ s ∈ nmL, s.size ≤ 7) s hs
  refine aD ?_
  first | (refine bE (aH hl 3 (by decide) (by decide) i h hi hh) ⟨rfl, rfl⟩ ?_ rfl ?_; (focus first | rfl | (simp only [go_sem]; done))) | (refine hZ (aH hl 3 (by decide) (by decide) i h hi hh) ⟨rfl, rfl⟩ ?_ rfl ?_; (focus first | rfl | (simp only [go_sem]; done)))
  clear hi hh; rintro ⟨x, i, h⟩ ⟨hx, hi, hh⟩; simp only at hx hi hh; simp only [go_sem]
  refine iZ (oZ ((1 : Int) + x)) ?_
  exact aN (⟨4, 0, 0, s, ⟨1, 1 + x, ⟨#[]⟩⟩⟩, i, h) ⟨⟨_, rfl, by simp only [go_sem]⟩, trivial⟩ ⟨gQ (inS (by decide)) in0 in0 hw in1 (inS (by omega)) z0, ⟨hi, hh⟩⟩ (by simp only [go_sem])
 ·refine aD ?_
  first | (refine bE (iN hl i h hi hh) ⟨rfl, rfl⟩ ?_ rfl ?_; (focus first | rfl | (simp only [go_sem]; done))) | (refine hZ (iN hl i h hi hh) ⟨rfl, rfl⟩ ?_ rfl ?_; (focus first | rfl | (simp only [go_sem]; done)))
  clear hi hh; rintro ⟨s, i, h⟩ ⟨hs, hi, hh⟩; simp only at hs hi hh; simp only [go_sem]
  have hw : s.size ≤ 7 := by unfold w1 at hs; omega
  refine aD ?_
  exact aN (⟨8, 0, 0, s, ⟨0, 0, ⟨#[]⟩⟩⟩, i, h) ⟨⟨_, rfl, by simp only [go_sem]⟩, trivial⟩ ⟨gQ (inS (by decide)) in0 in0 hw in0 in0 z0, ⟨hi, hh⟩⟩ (by simp only [go_sem])
 ·refine aD ?_
  first | (refine bE (iN hl i h hi hh) ⟨rfl, rfl⟩ ?_ rfl ?_; (focus first | rfl | (simp only [go_sem]; done))) | (refine hZ (iN hl i h hi hh) ⟨rfl, rfl⟩ ?_ rfl ?_; (focus first | rfl | (simp only [go_sem]; done)))
  clear hi hh; rintro ⟨s, i, h⟩ ⟨hs, hi, hh⟩; simp only at hs hi hh; simp only [go_sem]
  have hw : s.size ≤ 7 := by unfold w1 at hs; omega
  refine aD ?_
  exact aN (⟨8, 0, 0, s, ⟨0, 0, ⟨#[]⟩⟩⟩, i, h) ⟨⟨_, rfl, by simp only [go_sem]⟩, trivial⟩ ⟨gQ (inS (by decide)) in0 in0 hw in0 in0 z0, ⟨hi, hh⟩⟩ (by simp only [go_sem])
 ·refine aD ?_
  first | (refine bE (iN hl i h hi hh) ⟨rfl, rfl⟩ ?_ rfl ?_; (focus first | rfl | (simp only [go_sem]; done))) | (refine hZ (iN hl i h hi hh) ⟨rfl, rfl⟩ ?_ rfl ?_; (focus first | rfl | (simp only [go_sem]; done)))
  clear hi hh; rintro ⟨s, i, h⟩ ⟨hs, hi, hh⟩; simp only at hs hi hh; simp only [go_sem]
  have hw : s.size ≤ 7 := by unfold w1 at hs; omega
  refine aD ?_
  exact aN (⟨9, 0, 0, s, ⟨0, 0, ⟨#[]⟩⟩⟩, i, h) ⟨⟨_, rfl, by simp only [go_sem]⟩, trivial⟩ ⟨gQ (inS (by decide)) in0 in0 hw in0 in0 z0, ⟨hi, hh⟩⟩ (by simp only [go_sem])
 ·refine aD ?_
  first | (refine bE (aH hl 4 (by decide) (by decide) i h hi hh) ⟨rfl, rfl⟩ ?_ rfl ?_; (focus first | rfl | (simp only [go_sem]; done))) | (refine hZ (aH hl 4 (by decide) (by decide) i h hi hh) ⟨rfl, rfl⟩ ?_ rfl ?_; (focus first | rfl | (simp only [go_sem]; done)))
  clear hi hh; rintro ⟨x, i, h⟩ ⟨hx, hi, hh⟩; simp only at hx hi hh; simp only [go_sem]
  refine iZ (oZ x) ?_
  exact aN (⟨3, 0, 0, ⟨#[98]⟩, ⟨1, x, ⟨#[]⟩⟩⟩, i, h) ⟨⟨_, rfl, by simp only [go_sem]⟩, trivial⟩ ⟨gQ (inS (by decide)) in0 in0 (by decide) in1 (inS (by omega)) z0, ⟨hi, hh⟩⟩ (by simp only [go_sem])
structure qryD (p m : Nat) (q : List TNode) : Prop where
 lo : p < q.length
 hi : q.length ≤ m
 nd : ∀ n ∈ q, nodeD n
theorem sD {p m : Nat} {q : List TNode} {n : TNode} (h : ∀ x ∈ q, nodeD x) (hn : nodeD n) (h1 : p ≤ q.length) (h2 : q.length + 1 ≤ m) : qryD p m (q ++ [n]) := ⟨by simp; omega, by simp; omega, fun x hx => by
 rcases List.mem_append.1 hx with hx | hx
 ·exact h x hx
 ·simp only [List.mem_singleton] at hx; subst hx; exact hn⟩
theorem a7o (q : List TNode) : fV (q.map bS) = true := by
 unfold fV
 simp [bS, isV]
theorem b6u {q : List TNode} {m : Nat} (hl : q.length ≤ m) (h : ∀ n ∈ q, nodeD n) : eU q ≤ m * 15 := by
 have : ∀ (q : List TNode), (∀ n ∈ q, nodeD n) → bI zZ q ≤ q.length * 14 := fun q => by
  induction q with
  | nil => intro _; simp [bI]
  | cons x q ih =>
   intro h
   have h1 := (h x List.mem_cons_self).nm
   have h3 := (h x List.mem_cons_self).vs
   have h4 : zZ x = x.fName.size + x.fValue.fStr.size := rfl
   have h2 := ih fun n hn => h n (List.mem_cons_of_mem _ hn)
   simp only [bI, List.length_cons, Nat.add_mul]
   omega
 have h2 := this q h
 unfold eU
 omega
theorem wC {l : List Int} (hl : iT l) (nt : Bool) (i : Nat) (h : Int) (q : List TNode) (hi : i ≤ l.length) (hh : inR .i64 h) (hq : q.length ≤ 100) (hn : ∀ n ∈ q, nodeD n) :
    FnG Tryz.prog 141 97 (a2N l i h) 104 7 (q.map bS) [oi 0, ob nt] (fun x : List TNode × Nat × Int => qryD q.length (q.length + 1) x.1 ∧ (x.2.1 ≤ l.length ∧ inR .i64 x.2.2)) (fun x => x.1.map bS) (fun x => a2N l x.2.1 x.2.2) := by
 have hl1 : q.length + 1 ≤ 140737488355328 := by omega
 have hl2 : (q.length + 1) * 72 ≤ 140737488355328 := by omega
 refine b7E Tryz.func141 rfl Tryz.call141 rfl (fun C b => ?_); simp only [go_sem, stG, Tryz.ntmps141]
 refine aD ?_
 first | (refine bE (uG hl i h hi hh) ⟨rfl, rfl⟩ ?_ rfl ?_; (focus first | rfl | (simp only [go_sem]; done))) | (refine hZ (uG hl i h hi hh) ⟨rfl, rfl⟩ ?_ rfl ?_; (focus first | rfl | (simp only [go_sem]; done)))
 clear hi hh; rintro ⟨n, i, h⟩ ⟨hnn, hi, hh⟩; simp only at hnn hi hh; simp only [go_sem]
 have q0 := @hl1; have q1 := @hl2; refine fM ?_
 exact sF (q ++ [n], i, h) 1 ⟨sD hn hnn (Nat.le_refl _) (by omega), hi, hh⟩ (by simp only [go_sem]) (by simp only [go_sem, List.map_append]; try simp [bS]) (by simp only [go_sem])
theorem a8V {l : List Int} (hl : iT l) (nt : Bool) : ∀ (d : Nat) (i : Nat) (h : Int) (q : List TNode), i ≤ l.length → inR .i64 h → q.length + 3 * d ≤ 100 → (∀ n ∈ q, nodeD n) →
    FnG Tryz.prog 141 97 (a2N l i h) 104 7 (q.map bS) [oi (d : Nat), ob nt] (fun x : List TNode × Nat × Int => qryD q.length (q.length + 1 + 2 * d) x.1 ∧ (x.2.1 ≤ l.length ∧ inR .i64 x.2.2)) (fun x => x.1.map bS) (fun x => a2N l x.2.1 x.2.2) := by
 intro d
 induction d with
 | zero => intro i h q hi hh hq hn; exact wC hl nt i h q hi hh (by omega) hn
 | succ d ih =>
  intro i h q hi hh hq hn
  have hl1 : q.length + 1 ≤ 140737488355328 := by omega
  have hl2 : (q.length + 1) * 72 ≤ 140737488355328 := by omega
  have hd0 : ((d : Int) + 1 = 0) = False := by simp; omega
  have hd1 : (d : Int) + 1 - 1 = (d : Int) := by omega
  refine b7E Tryz.func141 rfl Tryz.call141 rfl (fun C b => ?_); simp only [go_sem, stG, Tryz.ntmps141, Int.natCast_add, Int.cast_ofNat_Int]
  have q0 := @hd0; refine jW ?_
  first | (refine bE (eY hl 3 (by decide) (by decide) i h hi hh) ⟨rfl, rfl⟩ ?_ rfl ?_; (focus first | rfl | (simp only [go_sem]; done))) | (refine hZ (eY hl 3 (by decide) (by decide) i h hi hh) ⟨rfl, rfl⟩ ?_ rfl ?_; (focus first | rfl | (simp only [go_sem]; done)))
  clear hi hh; rintro ⟨c1, i, h⟩ ⟨q1, hi, hh⟩; simp only at q1 hi hh; simp only [go_sem]
  cases c1
  case true =>
   refine aD ?_
   first | (refine bE (uG hl i h hi hh) ⟨rfl, rfl⟩ ?_ rfl ?_; (focus first | rfl | (simp only [go_sem]; done))) | (refine hZ (uG hl i h hi hh) ⟨rfl, rfl⟩ ?_ rfl ?_; (focus first | rfl | (simp only [go_sem]; done)))
   clear hi hh; rintro ⟨n, i, h⟩ ⟨hnn, hi, hh⟩; simp only at hnn hi hh; simp only [go_sem]
   have q0 := @hl1; have q1 := @hl2; refine fM ?_
   exact sF (q ++ [n], i, h) 1 ⟨sD hn hnn (Nat.le_refl _) (by omega), hi, hh⟩ (by simp only [go_sem]) (by simp only [go_sem, List.map_append]; try simp [bS]) (by simp only [go_sem])
  refine aD ?_
  first | (refine bE (aH hl 5 (by decide) (by decide) i h hi hh) ⟨rfl, rfl⟩ ?_ rfl ?_; (focus first | rfl | (simp only [go_sem]; done))) | (refine hZ (aH hl 5 (by decide) (by decide) i h hi hh) ⟨rfl, rfl⟩ ?_ rfl ?_; (focus first | rfl | (simp only [go_sem]; done)))
  clear hi hh; rintro ⟨k, i, h⟩ ⟨hk, hi, hh⟩; simp only at hk hi hh; simp only [go_sem]
  have two : ∀ (x : List TNode × Nat × Int), qryD q.length (q.length + 1 + 2 * d) x.1 → x.1.length ≤ 100 := fun x hx => by have := hx.hi; omega
  by_cases k0 : k = 0
  ·cases nt
   case true =>
    have q0 := @k0; have q1 := @hd1; have q2 := @decide_true; refine jQ ?_
    refine a4I (ih i h q hi hh (by omega) hn) ⟨rfl, rfl⟩ rfl (a7o q) (by simp only [go_sem, hd1]) rfl ?_
    clear hi hh
    rintro ⟨p2, i, h⟩ ⟨hq2, hi, hh⟩
    simp only at hq2 hi hh
    have g1 := hq2.hi
    have g2 := hq2.lo
    have hm1 : p2.length + 1 ≤ 140737488355328 := by omega
    have hm2 : (p2.length + 1) * 72 ≤ 140737488355328 := by omega
    simp only [go_sem]
    have q0 := @hm1; have q1 := @hm2; refine fM ?_
    exact sF (p2 ++ [⟨5, (p2.length : Int) - 1, 0, ⟨#[]⟩, ⟨0, 0, ⟨#[]⟩⟩⟩], i, h) 2 ⟨sD hq2.nd (gQ (inS (by decide)) (inS (by omega)) in0 (Nat.zero_le _) in0 in0 (Nat.zero_le _)) (by omega) (by omega), hi, hh⟩ (by simp only [go_sem]) (by simp only [go_sem, List.map_append]; try simp [bS]) (by simp only [go_sem])
   have q0 := @k0; have q1 := @hd1; have q2 := @decide_true; refine jQ ?_
   refine a4I (ih i h q hi hh (by omega) hn) ⟨rfl, rfl⟩ rfl (a7o q) (by simp only [go_sem, hd1]) rfl ?_
   clear hi hh
   rintro ⟨p2, i, h⟩ ⟨hq2, hi, hh⟩
   simp only at hq2 hi hh
   have g1 := hq2.hi
   have g2 := hq2.lo
   simp only [go_sem]
   refine aD ?_
   refine a4I (wC hl false i h p2 hi hh (by omega) hq2.nd) ⟨rfl, rfl⟩ rfl (a7o p2) (by simp only [go_sem]) rfl ?_
   clear hi hh
   rintro ⟨p3, i, h⟩ ⟨hq3, hi, hh⟩
   simp only at hq3 hi hh
   have g3 := hq3.hi
   have g4 := hq3.lo
   have hm1 : p3.length + 1 ≤ 140737488355328 := by omega
   have hm2 : (p3.length + 1) * 72 ≤ 140737488355328 := by omega
   simp only [go_sem]
   have k3 : k < 3 := by omega
   have q0 := @k3; have q1 := @decide_true; have q2 := @hm1; have q3 := @hm2; refine jX ?_
   exact sF (p3 ++ [⟨6, (p2.length : Int) - 1, (p3.length : Int) - 1, ⟨#[]⟩, ⟨0, 0, ⟨#[]⟩⟩⟩], i, h) 3 ⟨sD hq3.nd (gQ (inS (by decide)) (inS (by omega)) (inS (by omega)) (Nat.zero_le _) in0 in0 (Nat.zero_le _)) (by omega) (by omega), hi, hh⟩ (by simp only [go_sem]) (by simp only [go_sem, List.map_append]; try simp [bS]) (by simp only [go_sem])
  ·have q0 := @k0; have q1 := @hd1; have q2 := @decide_false; refine jQ ?_
   refine a4I (ih i h q hi hh (by omega) hn) ⟨rfl, rfl⟩ rfl (a7o q) (by simp only [go_sem, hd1]) rfl ?_
   clear hi hh
   rintro ⟨p2, i, h⟩ ⟨hq2, hi, hh⟩
   simp only at hq2 hi hh
   have g1 := hq2.hi
   have g2 := hq2.lo
   simp only [go_sem]
   refine aD ?_
   refine a4I (wC hl nt i h p2 hi hh (by omega) hq2.nd) ⟨rfl, rfl⟩ rfl (a7o p2) (by simp only [go_sem]) rfl ?_
   clear hi hh
   rintro ⟨p3, i, h⟩ ⟨hq3, hi, hh⟩
   simp only at hq3 hi hh
   have g3 := hq3.hi
   have g4 := hq3.lo
   have hm1 : p3.length + 1 ≤ 140737488355328 := by omega
   have hm2 : (p3.length + 1) * 72 ≤ 140737488355328 := by omega
   simp only [go_sem]
   by_cases k3 : k < 3
   ·have q0 := @k3; have q1 := @decide_true; have q2 := @hm1; have q3 := @hm2; refine jX ?_
    exact sF (p3 ++ [⟨6, (p2.length : Int) - 1, (p3.length : Int) - 1, ⟨#[]⟩, ⟨0, 0, ⟨#[]⟩⟩⟩], i, h) 3 ⟨sD hq3.nd (gQ (inS (by decide)) (inS (by omega)) (inS (by omega)) (Nat.zero_le _) in0 in0 (Nat.zero_le _)) (by omega) (by omega), hi, hh⟩ (by simp only [go_sem]) (by simp only [go_sem, List.map_append]; try simp [bS]) (by simp only [go_sem])
   ·have q0 := @k3; have q1 := @decide_false; have q2 := @hm1; have q3 := @hm2; refine jX ?_
    exact sF (p3 ++ [⟨7, (p2.length : Int) - 1, (p3.length : Int) - 1, ⟨#[]⟩, ⟨0, 0, ⟨#[]⟩⟩⟩], i, h) 3 ⟨sD hq3.nd (gQ (inS (by decide)) (inS (by omega)) (inS (by omega)) (Nat.zero_le _) in0 in0 (Nat.zero_le _)) (by omega) (by omega), hi, hh⟩ (by simp only [go_sem]) (by simp only [go_sem, List.map_append]; try simp [bS]) (by simp only [go_sem])
theorem fF {l : List Int} (hl : iT l) : Drw l 111 [] (fun q : List TNode => qryD 0 7 q) (fun q => .o (.w 104 7 (q.map bS))) := by
 intro i h hi hh; refine rY Tryz.func111 rfl Tryz.call111 rfl (fun C b => ?_); simp only [go_sem, Tryz.ntmps111]
 refine aD ?_
 first | (refine bE (aH hl 4 (by decide) (by decide) i h hi hh) ⟨rfl, rfl⟩ ?_ rfl ?_; (focus first | rfl | (simp only [go_sem]; done))) | (refine hZ (aH hl 4 (by decide) (by decide) i h hi hh) ⟨rfl, rfl⟩ ?_ rfl ?_; (focus first | rfl | (simp only [go_sem]; done)))
 clear hi hh; rintro ⟨x, i, h⟩ ⟨hx, hi, hh⟩; simp only at hx hi hh; simp only [go_sem]
 obtain ⟨d, rfl⟩ := Int.eq_ofNat_of_zero_le hx.1
 refine aD ?_
 refine b6t 104 7 ?_
 refine a4I (a8V hl true d i h [] hi hh (by simp; omega) (fun n hn => by simp at hn)) ⟨rfl, rfl⟩ rfl rfl (by simp only [go_sem]) rfl ?_
 clear hi hh
 rintro ⟨q, i, h⟩ ⟨hq, hi, hh⟩
 simp only at hq hi hh
 simp only [go_sem]
 refine aD ?_
 have g1 := hq.hi
 simp only [List.length_nil] at g1
 exact aN (q, i, h) ⟨⟨_, rfl, by simp only [go_sem]⟩, trivial⟩ ⟨(show qryD 0 7 q from ⟨hq.lo, by omega, hq.nd⟩), ⟨hi, hh⟩⟩ (by simp only [go_sem])
@[go_sem] def b9h : List ByteArray := [⟨#[]⟩, ⟨#[97]⟩, ⟨#[100, 97]⟩, ⟨#[97, 98, 99, 100, 101, 102, 103]⟩, ⟨#[65]⟩]
structure qryA (q : List TNode) : Prop where
 hi : q.length ≤ 8
 nd : ∀ n ∈ q, nodeD n
end Go.Proofs.YtakopfjdmmnjcaaGreat
end
section
namespace Go.Proofs
open Go.Shelf
def Tryz.laysSortStr_ren : Go.Shelf.Ren := ⟨fun | 190 => 211 | 125 => 215 | 258 => 214 | 128 => 226 | 129 => 227 | 302 => 217 | 303 => 218 | 304 => 219 | 305 => 220 | 306 => 221 | 307 => 222 | 308 => 223 | 309 => 224 | 310 => 225 | 333 => 228 | 329 => 229 | 330 => 230 | 334 => 231 | 335 => 232 | 336 => 149 | 344 => 233 | n => n, fun | 31 => 39 | 9 => 9 | 3 => 3 | 46 => 155 | 0 => 0 | 51 => 238 | 53 => 240 | 4 => 4 | 183 => 231 | 182 => 230 | 131 => 223 | 5 => 5 | 218 => 241 | 222 => 245 | 228 => 247 | 229 => 248 | n => n, fun | n => n⟩
theorem Tryz.laysSortStr : Go.Proofs.Lays.n190 Tryz.prog Tryz.laysSortStr_ren := {
 mixed := by kernel_rfl
 f125 := Tryz.func215.trans (congrArg some (by kernel_rfl))
 f128 := Tryz.func226.trans (congrArg some (by kernel_rfl))
 f129 := Tryz.func227.trans (congrArg some (by kernel_rfl))
 f190 := Tryz.func211.trans (congrArg some (by kernel_rfl))
 f258 := Tryz.func214.trans (congrArg some (by kernel_rfl))
 f302 := Tryz.func217.trans (congrArg some (by kernel_rfl))
 f303 := Tryz.func218.trans (congrArg some (by kernel_rfl))
 f304 := Tryz.func219.trans (congrArg some (by kernel_rfl))
 f305 := Tryz.func220.trans (congrArg some (by kernel_rfl))
 f306 := Tryz.func221.trans (congrArg some (by kernel_rfl))
 f307 := Tryz.func222.trans (congrArg some (by kernel_rfl))
 f308 := Tryz.func223.trans (congrArg some (by kernel_rfl))
 f309 := Tryz.func224.trans (congrArg some (by kernel_rfl))
 f310 := Tryz.func225.trans (congrArg some (by kernel_rfl))
 f329 := Tryz.func229.trans (congrArg some (by kernel_rfl))
 f330 := Tryz.func230.trans (congrArg some (by kernel_rfl))
 f333 := Tryz.func228.trans (congrArg some (by kernel_rfl))
 f334 := Tryz.func231.trans (congrArg some (by kernel_rfl))
 f335 := Tryz.func232.trans (congrArg some (by kernel_rfl))
 f336 := Tryz.func149.trans (congrArg some (by kernel_rfl))
 f344 := Tryz.func233.trans (congrArg some (by kernel_rfl))
 t0 := Tryz.underlying0
 a0 := Tryz.isAgg0
 z0 := Tryz.sizeOf0
 v0 := Tryz.zeroValue0
 t3 := Tryz.underlying3
 a3 := Tryz.isAgg3
 z3 := Tryz.sizeOf3
 v3 := Tryz.zeroValue3
 t4 := Tryz.underlying4
 a4 := Tryz.isAgg4
 z4 := Tryz.sizeOf4
 v4 := Tryz.zeroValue4
 t5 := Tryz.underlying5
 a5 := Tryz.isAgg5
 z5 := Tryz.sizeOf5
 v5 := Tryz.zeroValue5
 t9 := Tryz.underlying9
 a9 := Tryz.isAgg9
 z9 := Tryz.sizeOf9
 v9 := Tryz.zeroValue9
 t31 := Tryz.underlying39
 a31 := Tryz.isAgg39
 z31 := Tryz.sizeOf39
 v31 := Tryz.zeroValue39
 t46 := Tryz.underlying155
 a46 := Tryz.isAgg155
 z46 := Tryz.sizeOf155
 v46 := Tryz.zeroValue155
 t51 := Tryz.underlying238
 a51 := Tryz.isAgg238
 z51 := Tryz.sizeOf238
 v51 := Tryz.zeroValue238
 t53 := Tryz.underlying240
 a53 := Tryz.isAgg240
 z53 := Tryz.sizeOf240
 v53 := Tryz.zeroValue240
 t131 := Tryz.underlying223
 a131 := Tryz.isAgg223
 z131 := Tryz.sizeOf223
 v131 := Tryz.zeroValue223
 t182 := Tryz.underlying230
 a182 := Tryz.isAgg230
 z182 := Tryz.sizeOf230
 v182 := Tryz.zeroValue230
 t183 := Tryz.underlying231
 a183 := Tryz.isAgg231
 z183 := Tryz.sizeOf231
 v183 := Tryz.zeroValue231
 t218 := Tryz.underlying241
 a218 := Tryz.isAgg241
 z218 := Tryz.sizeOf241
 v218 := Tryz.zeroValue241
 t222 := Tryz.underlying245
 a222 := Tryz.isAgg245
 z222 := Tryz.sizeOf245
 v222 := Tryz.zeroValue245
 t228 := Tryz.underlying247
 a228 := Tryz.isAgg247
 z228 := Tryz.sizeOf247
 v228 := Tryz.zeroValue247
 t229 := Tryz.underlying248
 a229 := Tryz.isAgg248
 z229 := Tryz.sizeOf248
 v229 := Tryz.zeroValue248 }
def Tryz.laysCompactStr_ren : Go.Shelf.Ren := ⟨fun | 194 => 212 | n => n, fun | 31 => 39 | 9 => 9 | 3 => 3 | 4 => 4 | 0 => 0 | n => n, fun | n => n⟩
theorem Tryz.laysCompactStr : Go.Proofs.Lays.n194 Tryz.prog Tryz.laysCompactStr_ren := {
 mixed := by kernel_rfl
 f194 := Tryz.func212.trans (congrArg some (by kernel_rfl))
 t0 := Tryz.underlying0
 a0 := Tryz.isAgg0
 z0 := Tryz.sizeOf0
 v0 := Tryz.zeroValue0
 t3 := Tryz.underlying3
 a3 := Tryz.isAgg3
 z3 := Tryz.sizeOf3
 v3 := Tryz.zeroValue3
 t4 := Tryz.underlying4
 a4 := Tryz.isAgg4
 z4 := Tryz.sizeOf4
 v4 := Tryz.zeroValue4
 t9 := Tryz.underlying9
 a9 := Tryz.isAgg9
 z9 := Tryz.sizeOf9
 v9 := Tryz.zeroValue9
 t31 := Tryz.underlying39
 a31 := Tryz.isAgg39
 z31 := Tryz.sizeOf39
 v31 := Tryz.zeroValue39 }
def Tryz.laysInsG_ren : Go.Shelf.Ren := ⟨fun | 20 => 146 | n => n, fun | 24 => 75 | 22 => 41 | 3 => 3 | 25 => 121 | 4 => 4 | 0 => 0 | n => n, fun | n => n⟩
def Tryz.laysIdxG_ren : Go.Shelf.Ren := ⟨fun | 6 => 74 | n => n, fun | 22 => 41 | 23 => 75 | 25 => 118 | 3 => 3 | 0 => 0 | 4 => 4 | n => n, fun | n => n⟩
end Go.Proofs
end
section
namespace Go.Proofs.YtakopfjdmmnjcaaGreat
open Go Go.Sx Go.RowKit Go.Proofs
def b9c (l : List Int) : List Int := l.mergeSort fun x y => decide (x ≤ y)
theorem nD {α : Type} [Inhabited α] [DecidableEq α] (d : Array α) : ∀ m, (Lib.compactUpTo d m).length ≤ m
 | 0 => by simp [Lib.compactUpTo]
 | m + 1 => by
  have := nD d m
  rw [Lib.compactUpTo_succ, List.length_append]
  split <;> simp <;> omega
def b9d (l : List Int) : List Int := Lib.compact l
def bl (s : ByteArray) : List UInt8 := s.data.toList
def lb (l : List UInt8) : ByteArray := ⟨l.toArray⟩
theorem b3l (l : List UInt8) : bl (lb l) = l := rfl
theorem a7A (s : ByteArray) : lb (bl s) = s := by cases s; simp [lb, bl]
def nJ (l : List (List UInt8)) : List (List UInt8) := l.mergeSort fun x y => decide (x ≤ y)
def sK (l : List ByteArray) : List ByteArray := (nJ (l.map bl)).map lb
def a4N (l : List ByteArray) : List ByteArray := (Lib.compact (l.map bl)).map lb
theorem a0S (l : List ByteArray) : (sK l).length = l.length := by simp [sK, nJ, List.length_mergeSort]
theorem a5S (l : List ByteArray) : l.map iQ = xE Go.Proofs.encStr (l.map bl) := by
 simp only [xE, List.map_map]
 refine List.map_congr_left fun s _ => ?_
 have h := a7A s
 simp only [lb] at h
 simp only [Function.comp, iQ, Go.Proofs.encStr, h]
theorem b0l (l : List (List UInt8)) : (l.map lb).map iQ = xE Go.Proofs.encStr l := by
 rw [a5S, List.map_map]
 congr 1
 simp [Function.comp_def, b3l]
theorem xP (x : List UInt8) : scalar (Go.Proofs.encStr x) = true := rfl
theorem a3i (l : List ByteArray) (hl : l.length ≤ 4611686018427387903) : FnI Tryz.prog 211 9 1 (l.map iQ) [] true ((sK l).map iQ) := by
 refine ⟨Tryz.call211, fun V w y S vs htab hm hrow hnd hlt hargs => ?_⟩
 have hvs : vs = [] := by have := hargs.1; simpa using this
 subst hvs
 rw [sK, b0l]
 rw [a5S] at hrow
 rcases scal_down (e := Go.Proofs.encStr) hrow with ⟨⟨ao, rfl⟩, hn, rfl⟩ | ⟨b, cap, c, rfl, h1, h2, h3, h4, h5, h6, rfl⟩
 ·refine (Any.slices_Sort_string_none Tryz.laysSortStr ao 0 w).mono ?_
  rintro e w' ⟨rfl, rfl⟩
  exact ⟨_, rfl, fun _ => rfl, ⟨⟨rfl, rfl, rfl, Nat.le_refl _, fun _ _ _ => rfl⟩, [], (by rw [hn] at hrow ⊢; simpa [nJ] using hrow), hnd, fun b hb => .inl hb, fun _ => rfl⟩⟩
 ·have hb : b < w.heap.size := (Array.getElem?_eq_some_iff.1 h3).1
  refine (Any.slices_Sort_string Tryz.laysSortStr b 0 cap (l.map bl) w h5 hb (by simp; omega)).mono ?_
  rintro e w' ⟨rfl, n, os, rfl⟩
  have hsl : (nJ (l.map bl)).length = (l.map bl).length := by simp [nJ, List.length_mergeSort]
  have hup := a9Z (e := Go.Proofs.encStr) (l := nJ (l.map bl)) (d := (nJ (l.map bl)).toArray) xP h3 h4 h2 (by simp only [List.size_toArray, hsl]; exact h1) rfl (List.prefix_refl _) h6 (n := n) (os := os)
  rw [hsl] at hup
  exact ⟨_, rfl, fun _ => rfl, ⟨hup.2, [b], hup.1, hnd, fun b hb => .inl hb, fun _ => rfl⟩⟩
theorem xQ (l : List ByteArray) (hl : l.length ≤ 4611686018427387903) : FnI Tryz.prog 212 9 1 (l.map iQ) [] false ((a4N l).map iQ) := by
 refine ⟨Tryz.call212, fun V w y S vs htab hm hrow hnd hlt hargs => ?_⟩
 have hvs : vs = [] := by have := hargs.1; simpa using this
 subst hvs
 rw [a4N, b0l]
 rw [a5S] at hrow
 rcases scal_down (e := Go.Proofs.encStr) hrow with ⟨⟨ao, rfl⟩, hn, rfl⟩ | ⟨b, cap, c, rfl, h1, h2, h3, h4, h5, h6, rfl⟩
 ·refine (Any.slices_Compact_string_empty Tryz.laysCompactStr ao 0 w).mono ?_
  rintro e w' ⟨rfl, rfl⟩
  exact ⟨_, rfl, fun h => (by cases h), ⟨⟨rfl, rfl, rfl, Nat.le_refl _, fun _ _ _ => rfl⟩, [], (by rw [hn] at hrow ⊢; exact hrow), hnd, fun b hb => .inl hb, fun _ => rfl⟩⟩
 ·have hb : b < w.heap.size := (Array.getElem?_eq_some_iff.1 h3).1
  refine (Any.slices_Compact_string Tryz.laysCompactStr b 0 cap (l.map bl) w h5 (by simp; omega) h1).mono ?_
  rintro e w' ⟨rfl, n, rfl⟩
  have hle : (Lib.compact (l.map bl)).length ≤ (l.map bl).length := nD _ _
  have hup := a9Z (e := Go.Proofs.encStr) (l := Lib.compact (l.map bl)) (d := (Lib.compact (l.map bl) ++ List.replicate ((l.map bl).length - (Lib.compact (l.map bl)).length) []).toArray) (w' := Sort.putRow Go.Proofs.encStr (Sort.ahead w n) b 0 (Lib.compact (l.map bl) ++ List.replicate ((l.map bl).length - (Lib.compact (l.map bl)).length) []).toArray) xP h3 h4 h2 (by simp only [List.size_toArray, List.length_append, List.length_replicate]; omega) (by rw [Sort.grow_empty]) (by simp) h6 (n := n) (os := #[])
  exact ⟨_, rfl, fun h => (by cases h), ⟨hup.2, [b], hup.1, hnd, fun b hb => .inl hb, fun _ => rfl⟩⟩
end Go.Proofs.YtakopfjdmmnjcaaGreat
end
section
set_option maxRecDepth 100000
set_option maxHeartbeats 4000000
namespace Go.Proofs.YtakopfjdmmnjcaaGreat
open Go Go.Sx Go.RowKit Go.Proofs
def pK (l : List ByteArray) (s : ByteArray) : Bool := l.any fun x => decide (x = s)
theorem b1p (l : List ByteArray) (s : ByteArray) (hl : l.length ≤ 4300000) : FnC Tryz.prog 188 [.o (.d (.sl (l.map iQ))), os s] (oi (idxP (fun x => decide (s = x)) l 0)) := by
 refine ent Tryz.func188 rfl Tryz.call188 rfl (fun C => ?_); simp only [go_sem, st0, Tryz.ntmps188]
 refine aD ?_
 refine aY (α := Nat) (fun k => [(8, oi k)]) (fun _ => []) (fun k => k ≤ l.length ∧ idxP (fun x => decide (s = x)) l 0 = idxP (fun x => decide (s = x)) (l.drop k) k) (fun k => l.length - k) 0 (fun _ => ?_) ?_ ?_ (fun k hk => ?_)
 ·simp only [go_sem]
 ·simp only [go_sem]; simp
 ·simp
 ·obtain ⟨hk, hq⟩ := hk
  simp only [go_sem]
  refine aD ?_
  refine cnd rfl (fun h => ?_) (fun h => ?_)
  ·simp only [decide_eq_true_eq, Int.ofNat_lt] at h
   have hd := List.drop_eq_getElem_cons h
   rw [hd, idxP] at hq
   have q0 := @h; refine jW ?_
   refine cnd rfl (fun h2 => ?_) (fun h2 => ?_)
   ·refine aD ?_
    exact aA ⟨⟨_, rfl, by simp only [go_sem, hq, h2]⟩, trivial⟩
   ·refine aD ?_
    refine aF (k + 1) ?_ ?_ ?_
    ·simp only [go_sem]; simp
    ·rw [hq, h2]; exact ⟨h, by simp⟩
    ·omega
  ·simp only [decide_eq_false_iff_not] at h
   have e : k = l.length := by omega
   subst e
   simp only [List.drop_length, idxP] at hq
   refine aD ?_
   exact aA ⟨⟨_, rfl, by simp only [go_sem, hq]⟩, trivial⟩
theorem a3j {α : Type} (p : α → Bool) : ∀ (l : List α) (k : Nat), decide (0 ≤ idxP p l k) = l.any p
 | [], _ => by simp [idxP]
 | x :: xs, k => by
  simp only [idxP, List.any_cons]
  by_cases h : p x = true
  ·simp [h]
  ·rw [Bool.not_eq_true] at h
   simpa [h] using a3j p xs (k + 1)
theorem b3m (l : List ByteArray) (s : ByteArray) : decide (0 ≤ idxP (fun x => decide (s = x)) l 0) = pK l s := by
 rw [a3j]; unfold pK
 congr 1; funext x; congr 1; exact propext eq_comm
theorem fT (l : List ByteArray) (s : ByteArray) (hl : l.length ≤ 4300000) : FnC Tryz.prog 171 [.o (.d (.sl (l.map iQ))), os s] (ob (pK l s)) := by
 refine ent Tryz.func171 rfl Tryz.call171 rfl (fun C => ?_); simp only [go_sem, st0, Tryz.ntmps171]
 refine iZ (b1p l s hl) ?_
 exact aA ⟨⟨_, rfl, by simp only [go_sem, b3m]⟩, trivial⟩
def dirNs (l : List TDir) : List ByteArray := l.map TDir.fName
theorem a0T (l : List TDir) : (dirNs l).length = l.length := by simp [dirNs]
theorem a1p (l : List TDir) (hl : l.length ≤ 4300000) : FnC Tryz.prog 154 [.o (.d (.sl (l.map dG)))] (.o (.w 9 1 ((dirNs l).map iQ))) := by
 refine ent Tryz.func154 rfl Tryz.call154 rfl (fun C => ?_); simp only [go_sem, st0, Tryz.ntmps154]
 refine aD ?_
 refine aY (α := Nat) (fun k => [(3, .o (.s 0)), (6, .o .u), (9, oi k)]) (fun k => [(0, .row 9 1 ((dirNs (l.take k)).map iQ) true)]) (fun k => k ≤ l.length) (fun k => l.length - k) 0 (fun _ => ?_) ?_ ?_ (fun k hk => ?_)
 ·simp only [go_sem]
 ·simp only [go_sem]; simp [dirNs]
 ·simp
 ·simp only [go_sem]
  refine aD ?_
  refine cnd rfl (fun h1 => ?_) (fun h1 => ?_)
  ·simp only [decide_eq_true_eq, Int.ofNat_lt] at h1
   have ht : dirNs (l.take (k + 1)) = dirNs (l.take k) ++ [l[k].fName] := by simp only [dirNs, List.take_succ_eq_append_getElem h1, List.map_append, List.map_cons, List.map_nil]
   have hlen : (dirNs (l.take k)).length = k := by rw [a0T]; simp; omega
   have q0 := @h1; have q1 := @hlen; refine fM ?_
   refine aF (k + 1) ?_ ?_ ?_
   ·simp only [go_sem, ht, List.map_append]; simp
   ·omega
   ·omega
  ·simp only [decide_eq_false_iff_not] at h1
   have e : k = l.length := by omega
   subst e
   refine aD ?_
   exact aA ⟨⟨_, rfl, by simp only [go_sem, List.take_length]⟩, trivial⟩
def uD (names : List ByteArray) (l : List TDir) : List ByteArray := (dirNs l).filter fun n => !pK names n
end Go.Proofs.YtakopfjdmmnjcaaGreat
end
section
set_option maxRecDepth 100000
set_option maxHeartbeats 4000000
namespace Go.Sx
theorem b0k {P : Program} {C : Ctx} {F : Ex → St → Prop} {st : St} {code : Code} (i id : Nat) {ty sz : Nat} {rows : List (List D)} {lin : Bool} (hi : nth st.t i = .o (.s id)) (hb : bO st.h id = .row ty sz rows lin) (h : WP P C code F ⟨a6D st.t i (.o (.d (.sl rows))), setH st.h id (.frz rows lin)⟩) : WP P C code F st := by
 intro g V a w hr
 obtain ⟨g', V', h1, h2, h3, h4, h5⟩ := hr.hp.frz hr.mod hr.fr.size (aG hb (by simp))
 have hr1 : Rel C g' V' ⟨st.t, setH st.h id (.frz rows lin)⟩ a w := ⟨hr.sl.mono h1 h2, by rw [bR]; exact h4, h3, hr.fr, hr.vw.grow h2 h5⟩
 refine h g' V' a w ⟨⟨by rw [mI]; simpa using hr1.sl.size, fun n s y e1 e2 => ?_, hr1.sl.defers⟩, hr1.hp, hr1.mod, hr1.fr, hr1.vw⟩
 rw [mI, List.getElem?_set] at e1
 by_cases e : i = n
 ·subst e
  rw [if_pos rfl] at e1
  split at e1
  ·rename_i hlt
   cases e1
   have hs : st.t[i]? = some (.o (.s id)) := by
    rw [qU, List.getD_eq_getElem?_getD, List.getElem?_eq_getElem hlt] at hi
    rw [List.getElem?_eq_getElem hlt]
    exact congrArg some hi
   obtain ⟨gh, hgh, hy, _⟩ := hr1.sl.slot i _ y hs e2
   have hf : (setH st.h id (.frz rows lin))[id]? = some (.frz rows lin) := by
    have := aG hb (by simp)
    rw [bR, List.getElem?_set]; simp [(List.getElem?_eq_some_iff.1 this).1]
   obtain ⟨_, S, q1, _⟩ := hr1.hp.hb id _ gh hf hgh
   exact ⟨S, by rw [hy]; exact q1⟩
  ·cases e1
 ·rw [if_neg e] at e1
  exact hr1.sl.slot n s y e1 e2
end Go.Sx
namespace Go.Proofs.YtakopfjdmmnjcaaGreat
open Go Go.Sx Go.RowKit Go.Proofs
theorem yK {α : Type} [Inhabited α] [DecidableEq α] (d : Array α) : ∀ (m i : Nat), i < m → d[i]! ∈ Lib.compactUpTo d m
 | 0, i, h => by omega
 | m + 1, i, h => by
  rw [Lib.compactUpTo_succ]
  by_cases hi : i < m
  ·exact List.mem_append_left _ (yK d m i hi)
  ·have e : i = m := by omega
   subst e
   cases hk : Lib.keeps d i with
   | true => exact List.mem_append_right _ (by simp)
   | false =>
    have h0 : 0 < i := by
     rcases Nat.eq_zero_or_pos i with h | h
     ·subst h; rw [Lib.keeps_lt_one d 0 (by omega)] at hk; cases hk
     ·exact h
    have he : d[i]! = d[i - 1]! := Classical.byContradiction fun hn => by rw [Lib.keeps_pos hn] at hk; cases hk
    rw [he]
    exact List.mem_append_left _ (yK d i (i - 1) (by omega))
theorem a7z {α : Type} [Inhabited α] [DecidableEq α] (zs : List α) (x : α) : x ∈ Lib.compact zs ↔ x ∈ zs := by
 refine ⟨fun h => ?_, fun h => ?_⟩
 ·unfold Lib.compact Lib.compactUpTo at h
  obtain ⟨i, hi, rfl⟩ := List.mem_map.1 h
  have hi' : i < zs.length := List.mem_range.1 (List.mem_filter.1 hi).1
  simp [getElem!_pos, hi']
 ·obtain ⟨i, hi, rfl⟩ := List.mem_iff_getElem.1 h
  have := yK zs.toArray zs.length i hi
  have e : zs.toArray[i]! = zs[i] := by simp [getElem!_pos, hi]
  rw [e] at this
  exact this
def gD (l : List ByteArray) : List ByteArray := a4N (sK l)
theorem a4M (l : List ByteArray) : (gD l).length ≤ l.length := by
 have := nD ((sK l).map bl).toArray ((sK l).map bl).length
 simp only [gD, a4N, Lib.compact, List.length_map, a0S] at this ⊢
 exact this
theorem a3h (l : List ByteArray) (s : ByteArray) : pK l s = true ↔ s ∈ l := by
 unfold pK
 rw [List.any_eq_true]
 constructor
 ·rintro ⟨x, h1, h2⟩; rw [of_decide_eq_true h2] at h1; exact h1
 ·intro h; exact ⟨s, h, by simp⟩
theorem sI (l : List ByteArray) (s : ByteArray) : s ∈ gD l ↔ s ∈ l := by
 have e : (sK l).map bl = nJ (l.map bl) := by
  unfold sK
  rw [List.map_map]
  have : (bl ∘ lb) = id := by funext x; exact b3l x
  rw [this, List.map_id]
 unfold gD a4N
 rw [e]
 constructor
 ·intro h
  obtain ⟨y, hy, rfl⟩ := List.mem_map.1 h
  rw [a7z, nJ, List.mem_mergeSort] at hy
  obtain ⟨z, hz, rfl⟩ := List.mem_map.1 hy
  rw [a7A]; exact hz
 ·intro h
  refine List.mem_map.2 ⟨bl s, ?_, a7A s⟩
  rw [a7z, nJ, List.mem_mergeSort]
  exact List.mem_map.2 ⟨s, h, rfl⟩
theorem a3L (l : List ByteArray) (hl : l.length ≤ 4300000) : FnC Tryz.prog 206 [.o (.d (.sl (l.map iQ)))] (.o (.w 9 1 ((gD l).map iQ))) := by
 refine ent Tryz.func206 rfl Tryz.call206 rfl (fun C => ?_); simp only [go_sem, st0, Tryz.ntmps206]
 have qH := trivial; repeat' (with_reducible first | refine nY ?_ | (refine mX ?_; try simp only [go_sem]) | refine kD ?_ | refine rD ?_ | refine cP (a7k l hl) ?_ | refine vI (a3i l (by omega)) ?_ | refine vJ (a3i l (by omega)) ?_ | refine vI (xQ (sK l) (by rw [a0S]; omega)) ?_ | refine vJ (xQ (sK l) (by rw [a0S]; omega)) ?_ | refine aO ?_ | fail)
 exact aA ⟨⟨_, rfl, by simp only [go_sem, gD]⟩, trivial⟩
def geS (s : ByteArray) (y : ByteArray) : Bool := !dW y s
def kH (l : List ByteArray) (s : ByteArray) : List ByteArray := if (l.drop (eO (geS s) l)).head? = some s then l else iV (eO (geS s) l) s l
def putL (l : List ByteArray) : List ByteArray := l.foldl kH []
theorem sJ (l : List ByteArray) (s x : ByteArray) : x ∈ kH l s ↔ x = s ∨ x ∈ l := by
 unfold kH
 split
 ·rename_i h
  have : s ∈ l.drop (eO (geS s) l) := by
   cases hd : l.drop (eO (geS s) l) with
   | nil => rw [hd] at h; cases h
   | cons y r => rw [hd] at h; simp at h; simp [h]
  have hs := List.mem_of_mem_drop this
  constructor
  ·exact .inr
  ·rintro (rfl | h) <;> first | exact hs | exact h
 ·unfold iV
  conv => rhs; rw [← List.take_append_drop (eO (geS s) l) l]
  simp only [List.mem_append, List.mem_cons]
  constructor
  ·rintro (h | h | h) <;> first | exact .inr (.inl h) | exact .inl h | exact .inr (.inr h)
  ·rintro (h | h | h) <;> first | exact .inr (.inl h) | exact .inl h | exact .inr (.inr h)
theorem b3j (l : List ByteArray) (s : ByteArray) : (kH l s).length ≤ l.length + 1 := by
 unfold kH
 split
 ·omega
 ·rw [a4B _ _ _ (a0g _ l)]; omega
theorem b3k (l : List ByteArray) (s : ByteArray) : putL (l ++ [s]) = kH (putL l) s := by simp [putL]
theorem b1m (l : List ByteArray) : ∀ (a : List ByteArray) (x : ByteArray), x ∈ l.foldl kH a ↔ x ∈ a ∨ x ∈ l := by
 induction l with
 | nil => simp
 | cons y l ih =>
  intro a x
  rw [List.foldl_cons, ih, sJ]
  simp only [List.mem_cons]
  constructor
  ·rintro ((h | h) | h) <;> first | exact .inr (.inl h) | exact .inl h | exact .inr (.inr h)
  ·rintro (h | h | h) <;> first | exact .inl (.inr h) | exact .inl (.inl h) | exact .inr h
theorem pJ (l : List ByteArray) (x : ByteArray) : x ∈ putL l ↔ x ∈ l := by rw [putL, b1m]; simp
theorem b1n (l : List ByteArray) : ∀ a : List ByteArray, (l.foldl kH a).length ≤ a.length + l.length := by
 induction l with
 | nil => simp
 | cons y l ih =>
  intro a
  have h1 := ih (kH a y)
  have h2 := b3j a y
  simp only [List.foldl_cons, List.length_cons]; omega
theorem wE (l : List ByteArray) : (putL l).length ≤ l.length := by have := b1n l []; simpa [putL] using this
theorem b1o {α : Type} (p : α → Bool) (l : List α) (k : Nat) (h : k < l.length) (hk : eO p l = k + eO p (l.drop k)) : eO p l = if p l[k] then k else k + 1 + eO p (l.drop (k + 1)) := by
 rw [hk, a2T p l k h]
 split <;> omega
theorem nV {α β : Type} (f : α → β) (l : List α) (n : Nat) : (l.map f).take n = (l.take n).map f := List.map_take.symm
theorem nW {α β : Type} (f : α → β) (l : List α) (n : Nat) : (l.map f).drop n = (l.drop n).map f := List.map_drop.symm
end Go.Proofs.YtakopfjdmmnjcaaGreat
end
section
set_option maxRecDepth 100000
set_option maxHeartbeats 4000000
namespace Go.Proofs.YtakopfjdmmnjcaaGreat
open Go Go.Sx Go.RowKit Go.Proofs
theorem b4G (l : List ByteArray) : ∀ r ∈ l.map iQ, r.length = 1 := by intro r hr; obtain ⟨x, _, rfl⟩ := List.mem_map.1 hr; rfl
theorem b1l (l : List ByteArray) (s : ByteArray) (hl : l.length ≤ 4300000) : FnC Tryz.prog 193 [.o (.d (.sl (l.map iQ))), os s] (.o (.d (.sl ((kH l s).map iQ)))) := by
 have hle := a0g (geS s) l
 refine ent Tryz.func193 rfl Tryz.call193 rfl (fun C => ?_); simp only [go_sem, st0, Tryz.ntmps193]
 refine aD ?_
 refine aY (α := Nat) (fun k => [(5, oi k)]) (fun _ => []) (fun k => k ≤ l.length ∧ eO (geS s) l = k + eO (geS s) (l.drop k)) (fun k => l.length - k) 0 (fun _ => ?_) ?_ ?_ (fun k hk => ?_)
 ·simp only [go_sem]
 ·simp only [go_sem]; simp
 ·simp
 ·obtain ⟨hk, hf⟩ := hk
  simp only [go_sem]
  by_cases h1 : k < l.length
  ·have hfx := b1o (geS s) l k h1 hf
   have h1' : ((k : Int) < (l.length : Int)) = True := by simp [h1]
   have q0 := @h1; have q1 := @h1'; have q2 := @decide_true; refine jQ ?_
   refine cnd (b := dW l[k] s) rfl (fun h2 => ?_) (fun h2 => ?_)
   ·rw [if_neg (by simp [geS, h2])] at hfx
    refine aD ?_
    refine aF (k + 1) ?_ ?_ ?_
    ·simp only [go_sem]; simp
    ·exact ⟨by omega, hfx⟩
    ·omega
   ·rw [if_pos (by simp [geS, h2])] at hfx
    have hd := List.drop_eq_getElem_cons h1
    by_cases h3 : l[k] = s
    ·have hput : kH l s = l := by unfold kH; rw [hfx, hd]; simp [h3]
     have q0 := @h1; have q1 := @h1'; have q2 := @h3; have q3 := @decide_true; refine jX ?_
     exact aA ⟨⟨_, rfl, by simp only [go_sem, hput]⟩, trivial⟩
    ·have hput : kH l s = iV k s l := by unfold kH; rw [hfx, hd]; exact if_neg (fun h => h3 (Option.some.inj h))
     have hn1 : ((0 : Int) ≤ (k : Int)) := by omega
     have qH := aI @h1 (aI @h1' (aI @h3 (aI @hn1 (aI @decide_true (aI @decide_false (aI @nV (aI @nW (aI @nG (aI @nH @xD))))))))); repeat' (with_reducible first | refine nY ?_ | (refine mX ?_; try simp only [go_sem, qH]) | refine kD ?_ | refine rD ?_ | refine aO ?_ | fail)
     refine ⟨b4G l, by omega, by omega, by omega, ?_⟩
     have q0 := @nV; have q1 := @nW; have q2 := @nG; have q3 := @nH; have q4 := @xD; refine tO ?_
     refine ⟨b4G l, by omega, by omega, by omega, ?_⟩
     have q0 := @nV; have q1 := @nW; have q2 := @nG; have q3 := @nH; have q4 := @xD; refine tO ?_
     refine jH (Sees.frz 0 rfl) ?_
     simp only [go_sem]
     exact aA ⟨⟨_, rfl, by simp only [go_sem, hput, iV, List.take_length, List.map_append, List.map_cons, List.append_assoc, List.cons_append, List.nil_append]⟩, trivial⟩
  ·have e : k = l.length := by omega
   have hfx : eO (geS s) l = k := by rw [hf, e, List.drop_length]; rfl
   have hput : kH l s = iV k s l := by unfold kH; rw [hfx, e, List.drop_length]; simp
   have h1' : ((k : Int) < (l.length : Int)) = False := by simp [h1]
   have q0 := @h1; have q1 := @h1'; have q2 := @decide_false; have q3 := @nV; have q4 := @nW; have q5 := @nG; have q6 := @nH; have q7 := @xD; refine a0F ?_
   refine ⟨b4G l, by omega, by omega, by omega, ?_⟩
   have q0 := @nV; have q1 := @nW; have q2 := @nG; have q3 := @nH; have q4 := @xD; refine tO ?_
   refine ⟨b4G l, by omega, by omega, by omega, ?_⟩
   have q0 := @nV; have q1 := @nW; have q2 := @nG; have q3 := @nH; have q4 := @xD; refine tO ?_
   refine jH (Sees.frz 0 rfl) ?_
   simp only [go_sem]
   exact aA ⟨⟨_, rfl, by simp only [go_sem, hput, iV, List.take_length, List.map_append, List.map_cons, List.append_assoc, List.cons_append, List.nil_append]⟩, trivial⟩
def b3i (l : List TAttr) : List ByteArray := l.map TAttr.fName
def eqV (x v : TValue) : Bool := decide (x.fKind = v.fKind) && (decide (x.fInt = v.fInt) && decide (x.fStr = v.fStr))
def b0j (a b : TFile) (n : ByteArray) : Bool := !(eqV (getAttr n a.fAttrs) (getAttr n b.fAttrs))
def chL (a b : TFile) (l : List ByteArray) : List ByteArray := l.filter (b0j a b)
def chg (a b : TFile) : List ByteArray := chL a b (b3i a.fAttrs ++ b3i b.fAttrs)
@[go_sem] def uV (b : Bool) : List D := [bv b]
def b9b (n : TNode) : Bool := decide (n.fOp = 5)
def isTwo (n : TNode) : Bool := decide (n.fOp = 6) || decide (n.fOp = 7)
def jM (q : List TNode) (i : Nat) (L : List Bool) : List Bool := match q[i]? with
 | none => L
 | some n => if n.fOp = 5 then L.set n.fLeft.toNat true else if isTwo n then (L.set n.fLeft.toNat (L.getD i false)).set n.fRight.toNat (L.getD i false) else L
def negJ (q : List TNode) : Nat → List Bool
 | 0 => List.replicate q.length false
 | j + 1 => jM q (q.length - 1 - j) (negJ q j)
theorem a7y (q : List TNode) (i : Nat) (L : List Bool) : (jM q i L).length = L.length := by
 unfold jM
 split
 ·rfl
 ·split
  ·simp
  ·split <;> simp
theorem a0k (q : List TNode) (j : Nat) : (negJ q j).length = q.length := by
 induction j with
 | zero => simp [negJ]
 | succ j ih => simp only [negJ, a7y, ih]
def lC (q : List TNode) : List Bool := negJ q q.length
theorem a3g (q : List TNode) : (lC q).length = q.length := a0k q q.length
theorem a0Q (q : List TNode) (i : Nat) (h : i < q.length) : negJ q (q.length - i) = jM q i (negJ q (q.length - (i + 1))) := by
 have e : q.length - i = (q.length - (i + 1)) + 1 := by omega
 have e2 : q.length - 1 - (q.length - (i + 1)) = i := by omega
 rw [e, negJ, e2]
def iJ (n : TNode) : Bool := inB n.fOp 8 9
def sel (q : List TNode) (b : Bool) (k : Nat) : List ByteArray := match q[k]?, (lC q)[k]? with
 | some n, some x => if iJ n && (x == b) then [n.fName] else []
 | _, _ => []
def mV (q : List TNode) (b : Bool) (k : Nat) : List ByteArray := (List.range k).flatMap (sel q b)
def dH (q : List TNode) (b : Bool) : List ByteArray := mV q b q.length
theorem yJ (q : List TNode) (b : Bool) (k : Nat) : mV q b (k + 1) = mV q b k ++ sel q b k := by
 simp [mV, List.range_succ, List.flatMap_append]
theorem b4F (q : List TNode) (b : Bool) (k : Nat) : (sel q b k).length ≤ 1 := by
 unfold sel
 split
 ·split <;> simp
 ·simp
theorem jN (q : List TNode) (b : Bool) (k : Nat) : (mV q b k).length ≤ k := by
 induction k with
 | zero => simp [mV]
 | succ k ih => rw [yJ, List.length_append]; have := b4F q b k; omega
theorem b8H (L : List Bool) (i : Nat) (h : i < L.length) : L.getD i false = L[i] := by simp [List.getD_eq_getElem?_getD, h]
theorem b0g (L : List Bool) (l : Nat) : (L.map uV).set l [D.v (Value.bool false)] = (L.set l false).map uV := by rw [List.map_set]; rfl
theorem b0h (L : List Bool) (l : Nat) : (L.map uV).set l [D.v (Value.bool true)] = (L.set l true).map uV := by rw [List.map_set]; rfl
theorem a9a {L : List Bool} {i : Nat} {b : Bool} (h : i < L.length) (hb : L[i] = b) (l : Nat) (h' : i < (L.set l b).length) : (L.set l b)[i] = b := by
 rw [List.getElem_set]; split
 ·rfl
 ·exact hb
theorem b0i {L : List Bool} {i : Nat} {b : Bool} (h : i < L.length) (hb : L[i] = b) (l r : Nat) (h' : i < ((L.set l b).set r b).length) : ((L.set l b).set r b)[i] = b := by
 rw [List.getElem_set]; split
 ·rfl
 ·exact a9a h hb l _
theorem a0l {q : List TNode} {i : Nat} (h : i < q.length) (L : List Bool) {l : Nat} (h5 : q[i].fOp = 5) (hl : q[i].fLeft = (l : Int)) : jM q i L = L.set l true := by
 simp [jM, List.getElem?_eq_getElem h, h5, hl]
theorem wT {q : List TNode} {i : Nat} (h : i < q.length) (L : List Bool) (hi : i < L.length) {l m : Nat} (h5 : ¬ q[i].fOp = 5) (h67 : q[i].fOp = 6 ∨ q[i].fOp = 7) (hl : q[i].fLeft = (l : Int)) (hm : q[i].fRight = (m : Int)) : jM q i L = (L.set l L[i]).set m L[i] := by
 have h2 : isTwo q[i] = true := by unfold isTwo; rcases h67 with h | h <;> simp [h]
 simp only [jM, List.getElem?_eq_getElem h, h5, if_false, h2, if_true, hl, hm, Int.toNat_natCast, b8H L i hi]
theorem a0R {q : List TNode} {i : Nat} (h : i < q.length) (L : List Bool) (h5 : ¬ q[i].fOp = 5) (h67 : ¬ (q[i].fOp = 6 ∨ q[i].fOp = 7)) : jM q i L = L := by
 have h2 : isTwo q[i] = false := by
  unfold isTwo
  have h6 : ¬ q[i].fOp = 6 := fun h => h67 (.inl h)
  have h7 : ¬ q[i].fOp = 7 := fun h => h67 (.inr h)
  simp [h6, h7]
 simp only [jM, List.getElem?_eq_getElem h, h5, if_false, h2, Bool.false_eq_true]
theorem a9b (q : List TNode) (hq : okQ q = true) (hw : eU q ≤ 4300000) : FnC Tryz.prog 204 [.o (.d (.sl (q.map bS)))] (.o (.w 4 1 ((lC q).map uV))) := by
 have hl9 := mM hq
 refine ent Tryz.func204 rfl Tryz.call204 rfl (fun C => ?_); simp only [go_sem, st0, Tryz.ntmps204]
 have q0 := @hq; refine lK (cZ q hw) ?_
 refine aY (α := Nat) (fun m => [(4, oi ((m : Int) - 1))]) (fun m => [(0, .row 4 1 ((negJ q (q.length - m)).map uV) true)]) (fun m => m ≤ q.length) (fun m => m) q.length (fun _ => ?_) ?_ ?_ (fun m hm => ?_)
 ·simp only [go_sem]
 ·simp only [go_sem]; simp [negJ, uV]
 ·simp
 ·simp only [go_sem]
  refine aD ?_
  refine cnd rfl (fun h => ?_) (fun h => ?_)
  ·simp only [decide_eq_true_eq] at h
   obtain ⟨i, rfl⟩ : ∃ i, m = i + 1 := ⟨m - 1, by omega⟩
   have hx : ((i + 1 : Nat) : Int) - 1 = (i : Int) := by omega
   have hi : i < q.length := by omega
   have hst := a0Q q i hi
   have hLl := a0k q (q.length - (i + 1))
   generalize negJ q (q.length - (i + 1)) = L at *
   have hiL : i < L.length := by omega
   have hok := yH hq (List.getElem?_eq_getElem hi)
   have hop := rZ hok
   by_cases h5 : q[i].fOp = 5
   ·obtain ⟨l, hl, hli⟩ := dR hok (.inl h5)
    have hlL : l < L.length := by omega
    rw [a0l hi L h5 hl] at hst
    cases hb : L[i]
    all_goals
     have q0 := @hx; have q1 := @hi; have q2 := @hiL; have q3 := @hb; have q4 := @h5; have q5 := @hl; have q6 := @hlL; have q7 := @decide_true; have q8 := @decide_false; have q9 := @Int.toNat_natCast; refine rU ?_
     refine aF i ?_ ?_ ?_
     ·simp only [go_sem, hst]; simp [uV]
     ·omega
     ·omega
   by_cases h67 : q[i].fOp = 6 ∨ q[i].fOp = 7
   ·obtain ⟨l, hl, hli⟩ := dR hok (.inr h67)
    obtain ⟨r, hr, hri⟩ := fQ hok h67
    have hlL : l < L.length := by omega
    have hrL : r < L.length := by omega
    rw [wT hi L hiL h5 h67 hl hr] at hst
    by_cases h6 : q[i].fOp = 6
    ·cases hb : L[i]
     all_goals
      rw [hb] at hst
      have hrL1 : r < (L.set l false).length := by simpa using hrL
      have hrL2 : r < (L.set l true).length := by simpa using hrL
      have qH := aI @hx (aI @hi (aI @hiL (aI @hb (aI @h5 (aI @h6 (aI @hl (aI @hr (aI @hlL (aI @hrL (aI @b0g (aI @b0h (aI @hrL1 (aI @hrL2 (aI @decide_true (aI @decide_false @Int.toNat_natCast))))))))))))))); repeat' (with_reducible first | refine nY ?_ | (refine mX ?_; try simp only [go_sem, qH]) | refine kD ?_ | refine rT [15, 17] [] ?_ | refine bX (aX ?_) (uX ?_) | refine dM (aX ?_) ?_ | exact uB | refine rD ?_ | refine aO ?_ | fail)
      refine aF i ?_ ?_ ?_
      ·simp only [go_sem, hst]; simp [uV]
      ·omega
      ·omega
    ·have h7 : q[i].fOp = 7 := by omega
     cases hb : L[i]
     all_goals
      rw [hb] at hst
      have hrL1 : r < (L.set l false).length := by simpa using hrL
      have hrL2 : r < (L.set l true).length := by simpa using hrL
      have qH := aI @hx (aI @hi (aI @hiL (aI @hb (aI @h5 (aI @h6 (aI @h7 (aI @hl (aI @hr (aI @hlL (aI @hrL (aI @b0g (aI @b0h (aI @hrL1 (aI @hrL2 (aI @decide_true (aI @decide_false @Int.toNat_natCast)))))))))))))))); repeat' (with_reducible first | refine nY ?_ | (refine mX ?_; try simp only [go_sem, qH]) | refine kD ?_ | refine rT [15, 17] [] ?_ | refine bX (aX ?_) (uX ?_) | refine dM (aX ?_) ?_ | exact uB | refine rD ?_ | refine aO ?_ | fail)
      refine aF i ?_ ?_ ?_
      ·simp only [go_sem, hst]; simp [uV]
      ·omega
      ·omega
   ·have h6 : ¬ q[i].fOp = 6 := fun h => h67 (.inl h)
    have h7 : ¬ q[i].fOp = 7 := fun h => h67 (.inr h)
    rw [a0R hi L h5 h67] at hst
    cases hb : L[i]
    all_goals
     have q0 := @hx; have q1 := @hi; have q2 := @hiL; have q3 := @hb; have q4 := @h5; have q5 := @h6; have q6 := @h7; have q7 := @decide_true; have q8 := @decide_false; have q9 := @Int.toNat_natCast; refine rU ?_
     refine aF i ?_ ?_ ?_
     ·simp only [go_sem, hst]; simp [uV]
     ·omega
     ·omega
  ·simp only [decide_eq_false_iff_not] at h
   have e : m = 0 := by omega
   subst e
   refine aD ?_
   exact aA ⟨⟨_, rfl, by simp only [go_sem, lC, Nat.sub_zero]⟩, trivial⟩
theorem a9c (q : List TNode) (hq : okQ q = true) (hw : eU q ≤ 4300000) : FnC Tryz.prog 192 [.o (.d (.sl (q.map bS)))] (.o (.w 4 1 ((lC q).map uV))) := by
 have hl9 := mM hq
 refine ent Tryz.func192 rfl Tryz.call192 rfl (fun C => ?_); simp only [go_sem, st0, Tryz.ntmps192]
 have q0 := @hq; refine lK (dI q hw) ?_
 refine aY (α := Nat) (fun m => [(4, oi ((m : Int) - 1))]) (fun m => [(0, .row 4 1 ((negJ q (q.length - m)).map uV) true)]) (fun m => m ≤ q.length) (fun m => m) q.length (fun _ => ?_) ?_ ?_ (fun m hm => ?_)
 ·simp only [go_sem]
 ·simp only [go_sem]; simp [negJ, uV]
 ·simp
 ·simp only [go_sem]
  refine aD ?_
  refine cnd rfl (fun h => ?_) (fun h => ?_)
  ·simp only [decide_eq_true_eq] at h
   obtain ⟨i, rfl⟩ : ∃ i, m = i + 1 := ⟨m - 1, by omega⟩
   have hx : ((i + 1 : Nat) : Int) - 1 = (i : Int) := by omega
   have hi : i < q.length := by omega
   have hst := a0Q q i hi
   have hLl := a0k q (q.length - (i + 1))
   generalize negJ q (q.length - (i + 1)) = L at *
   have hiL : i < L.length := by omega
   have hok := yH hq (List.getElem?_eq_getElem hi)
   have hop := rZ hok
   by_cases h5 : q[i].fOp = 5
   ·obtain ⟨l, hl, hli⟩ := dR hok (.inl h5)
    have hlL : l < L.length := by omega
    rw [a0l hi L h5 hl] at hst
    cases hb : L[i]
    all_goals
     have q0 := @hx; have q1 := @hi; have q2 := @hiL; have q3 := @hb; have q4 := @h5; have q5 := @hl; have q6 := @hlL; have q7 := @decide_true; have q8 := @decide_false; have q9 := @Int.toNat_natCast; refine rU ?_
     refine aF i ?_ ?_ ?_
     ·simp only [go_sem, hst]; simp [uV]
     ·omega
     ·omega
   by_cases h67 : q[i].fOp = 6 ∨ q[i].fOp = 7
   ·obtain ⟨l, hl, hli⟩ := dR hok (.inr h67)
    obtain ⟨r, hr, hri⟩ := fQ hok h67
    have hlL : l < L.length := by omega
    have hrL : r < L.length := by omega
    rw [wT hi L hiL h5 h67 hl hr] at hst
    by_cases h6 : q[i].fOp = 6
    ·cases hb : L[i]
     all_goals
      rw [hb] at hst
      have hs1 := a9a hiL hb l
      have hs2 := b0i hiL hb l r
      have hrL1 : r < (L.set l false).length := by simpa using hrL
      have hrL2 : r < (L.set l true).length := by simpa using hrL
      have qH := aI @hx (aI @hi (aI @hiL (aI @hb (aI @h5 (aI @h6 (aI @hl (aI @hr (aI @hlL (aI @hrL (aI @b0g (aI @b0h (aI @hrL1 (aI @hrL2 (aI @hs1 (aI @hs2 (aI @decide_true (aI @decide_false @Int.toNat_natCast))))))))))))))))); repeat' (with_reducible first | refine nY ?_ | (refine mX ?_; try simp only [go_sem, qH]) | refine kD ?_ | refine rT [8] [] ?_ | refine bX (aX ?_) (uX ?_) | refine dM (aX ?_) ?_ | exact uB | refine rD ?_ | refine aO ?_ | fail)
      refine aF i ?_ ?_ ?_
      ·simp only [go_sem, hst]; simp [uV]
      ·omega
      ·omega
    ·have h7 : q[i].fOp = 7 := by omega
     cases hb : L[i]
     all_goals
      rw [hb] at hst
      have hs1 := a9a hiL hb l
      have hs2 := b0i hiL hb l r
      have hrL1 : r < (L.set l false).length := by simpa using hrL
      have hrL2 : r < (L.set l true).length := by simpa using hrL
      have qH := aI @hx (aI @hi (aI @hiL (aI @hb (aI @h5 (aI @h6 (aI @h7 (aI @hl (aI @hr (aI @hlL (aI @hrL (aI @b0g (aI @b0h (aI @hrL1 (aI @hrL2 (aI @hs1 (aI @hs2 (aI @decide_true (aI @decide_false @Int.toNat_natCast)))))))))))))))))); repeat' (with_reducible first | refine nY ?_ | (refine mX ?_; try simp only [go_sem, qH]) | refine kD ?_ | refine rT [8] [] ?_ | refine bX (aX ?_) (uX ?_) | refine dM (aX ?_) ?_ | exact uB | refine rD ?_ | refine aO ?_ | fail)
      refine aF i ?_ ?_ ?_
      ·simp only [go_sem, hst]; simp [uV]
      ·omega
      ·omega
   ·have h6 : ¬ q[i].fOp = 6 := fun h => h67 (.inl h)
    have h7 : ¬ q[i].fOp = 7 := fun h => h67 (.inr h)
    rw [a0R hi L h5 h67] at hst
    cases hb : L[i]
    all_goals
     have q0 := @hx; have q1 := @hi; have q2 := @hiL; have q3 := @hb; have q4 := @h5; have q5 := @h6; have q6 := @h7; have q7 := @decide_true; have q8 := @decide_false; have q9 := @Int.toNat_natCast; refine rU ?_
     refine aF i ?_ ?_ ?_
     ·simp only [go_sem, hst]; simp [uV]
     ·omega
     ·omega
  ·simp only [decide_eq_false_iff_not] at h
   have e : m = 0 := by omega
   subst e
   refine aD ?_
   exact aA ⟨⟨_, rfl, by simp only [go_sem, lC, Nat.sub_zero]⟩, trivial⟩
theorem b3h (q : List TNode) (b : Bool) (k : Nat) (h : k < q.length) (h2 : k < (lC q).length) : sel q b k = if iJ q[k] && ((lC q)[k] == b) then [q[k].fName] else [] := by
 unfold sel; rw [List.getElem?_eq_getElem h, List.getElem?_eq_getElem h2]
theorem a7v (n : TNode) : FnC Tryz.prog 205 [a9Q n] (ob (iJ n)) := by
 refine ent Tryz.func205 rfl Tryz.call205 rfl (fun C => ?_); simp only [go_sem, st0, Tryz.ntmps205]
 by_cases c8 : n.fOp = 8
 ·have hd : iJ n = true := by simp [iJ, inB, c8]
  have q0 := @c8; have q1 := @decide_true; refine fM ?_
  exact aA ⟨⟨_, rfl, by simp only [go_sem, hd]⟩, trivial⟩
 by_cases c9 : n.fOp = 9
 ·have hd : iJ n = true := by simp [iJ, inB, c9]
  have q0 := @c8; have q1 := @c9; have q2 := @decide_true; have q3 := @decide_false; refine jX ?_
  exact aA ⟨⟨_, rfl, by simp only [go_sem, hd]⟩, trivial⟩
 ·have hd : iJ n = false := by
   rw [← Bool.not_eq_true]
   simp only [iJ, inB, Bool.and_eq_true, decide_eq_true_eq]; omega
  have q0 := @c8; have q1 := @c9; have q2 := @decide_true; have q3 := @decide_false; refine jX ?_
  exact aA ⟨⟨_, rfl, by simp only [go_sem, hd]⟩, trivial⟩
theorem a1n (q : List TNode) (b : Bool) (hq : okQ q = true) (hw : eU q ≤ 4300000) : FnC Tryz.prog 197 [.o (.d (.sl (q.map bS))), ob b] (.o (.w 9 1 ((gD (dH q b)).map iQ))) := by
 have hl9 := mM hq
 have hnl := a3g q
 refine ent Tryz.func197 rfl Tryz.call197 rfl (fun C => ?_); simp only [go_sem, st0, Tryz.ntmps197]
 refine iZ (a9b q hq hw) ?_
 refine aY (α := Nat) (fun k => [(5, .o (.s 0)), (8, .o .u), (12, oi k)]) (fun k => [(0, .row 9 1 ((mV q b k).map iQ) true)]) (fun k => k ≤ q.length) (fun k => q.length - k) 0 (fun _ => ?_) ?_ ?_ (fun k hk => ?_)
 ·simp only [go_sem]
 ·simp only [go_sem]; simp [mV]
 ·simp
 ·simp only [go_sem]
  refine aD ?_
  refine cnd rfl (fun h1 => ?_) (fun h1 => ?_)
  ·simp only [decide_eq_true_eq, Int.ofNat_lt] at h1
   have h2 : k < (lC q).length := h1
   have h1 : k < q.length := by omega
   have hdl := jN q b k
   have hs := b3h q b k h1 h2
   have ht := yJ q b k
   rw [hs] at ht
   have hl1 : (mV q b k).length + 1 ≤ 140737488355328 := by omega
   have hl2 : ((mV q b k).length + 1) * 16 ≤ 140737488355328 := by omega
   cases hd : iJ q[k]
   ·simp only [hd, Bool.false_and, Bool.false_eq_true, if_false, List.append_nil] at ht
    have q0 := @h1; have q1 := @h2; have q2 := @hd; refine uS (a7v q[k]) ?_
    refine aF (k + 1) ?_ ?_ ?_
    ·simp only [go_sem, ht]; simp
    ·omega
    ·omega
   ·cases hx : (lC q)[k] <;> cases b
    all_goals
     simp only [hd, hx, Bool.true_and, Bool.true_beq, Bool.false_beq, Bool.not_true, Bool.not_false, Bool.false_eq_true, if_false, if_true, List.append_nil] at ht
     have q0 := @h1; have q1 := @h2; have q2 := @hd; have q3 := @hx; have q4 := @Bool.true_beq; have q5 := @Bool.false_beq; refine a1J (a7v q[k]) ?_
     refine aF (k + 1) ?_ ?_ ?_
     ·simp only [go_sem, ht, List.map_append]; simp
     ·omega
     ·omega
  ·simp only [decide_eq_false_iff_not] at h1
   have e : k = q.length := by omega
   subst e
   have hdl := jN q b q.length
   refine iZ (a3L (mV q b q.length) (by omega)) ?_
   exact aA ⟨⟨_, rfl, by simp only [go_sem, dH]⟩, trivial⟩
theorem a1o (q : List TNode) (b : Bool) (hq : okQ q = true) (hw : eU q ≤ 4300000) : FnC Tryz.prog 180 [.o (.d (.sl (q.map bS))), ob b] (.o (.w 9 1 ((putL (dH q b)).map iQ))) := by
 have hl9 := mM hq
 have hnl := a3g q
 refine ent Tryz.func180 rfl Tryz.call180 rfl (fun C => ?_); simp only [go_sem, st0, Tryz.ntmps180]
 refine iZ (a9c q hq hw) ?_
 refine b0k 5 0 rfl rfl ?_
 simp only [go_sem]
 refine aY (α := Nat) (fun k => [(5, .o (.d (.sl ((putL (mV q b k)).map iQ)))), (7, oi k), (8, .o .u)]) (fun _ => []) (fun k => k ≤ q.length) (fun k => q.length - k) 0 (fun _ => ?_) ?_ ?_ (fun k hk => ?_)
 ·simp only [go_sem]
 ·simp only [go_sem]; simp [mV, putL]
 ·simp
 ·simp only [go_sem]
  have hdl := jN q b k
  have hlen : (putL (mV q b k)).length ≤ 4300000 := by have h1 := wE (mV q b k); omega
  refine aD ?_
  refine cnd rfl (fun h1 => ?_) (fun h1 => ?_)
  ·simp only [decide_eq_true_eq, Int.ofNat_lt] at h1
   have h2 : k < (lC q).length := h1
   have h1 : k < q.length := by omega
   have hs := b3h q b k h1 h2
   have ht := yJ q b k
   rw [hs] at ht
   cases hd : iJ q[k]
   ·simp only [hd, Bool.false_and, Bool.false_eq_true, if_false, List.append_nil] at ht
    have q0 := @h1; have q1 := @h2; have q2 := @hd; refine uS (show FnC Tryz.prog _ _ (ob (iJ q[k])) from bP q[k].fOp 8 9) ?_
    refine aF (k + 1) ?_ ?_ ?_
    ·simp only [go_sem, ht]; simp
    ·omega
    ·omega
   ·cases hx : (lC q)[k] <;> cases b
    all_goals
     simp only [hd, hx, Bool.true_and, Bool.true_beq, Bool.false_beq, Bool.not_true, Bool.not_false, Bool.false_eq_true, if_false, if_true, List.append_nil] at ht
     have q0 := @h1; have q1 := @h2; have q2 := @hd; have q3 := @hx; have q4 := @Bool.true_beq; have q5 := @Bool.false_beq; refine a3E (show FnC Tryz.prog _ _ (ob (iJ q[k])) from bP q[k].fOp 8 9) (b1l (putL (mV q _ k)) q[k].fName hlen) ?_
     refine aF (k + 1) ?_ ?_ ?_
     ·simp only [go_sem, ht, b3k]; simp
     ·omega
     ·omega
  ·simp only [decide_eq_false_iff_not] at h1
   have e : k = q.length := by omega
   subst e
   refine aD ?_
   exact aA ⟨⟨_, rfl, by simp only [go_sem, dH]⟩, trivial⟩
theorem a8Y (q : List TNode) (hq : okQ q = true) (hw : eU q ≤ 4300000) : FnC Tryz.prog 186 [.o (.d (.sl (q.map bS)))] (.o (.w 9 1 ((gD (dH q false)).map iQ))) := by
 refine ent Tryz.func186 rfl Tryz.call186 rfl (fun C => ?_); simp only [go_sem, st0, Tryz.ntmps186]
 refine iZ (a1n q false hq hw) ?_
 exact aA ⟨⟨_, rfl, by simp only [go_sem]⟩, trivial⟩
theorem a7w (q : List TNode) (hq : okQ q = true) (hw : eU q ≤ 4300000) : FnC Tryz.prog 187 [.o (.d (.sl (q.map bS)))] (.o (.w 9 1 ((gD (dH q true)).map iQ))) := by
 refine ent Tryz.func187 rfl Tryz.call187 rfl (fun C => ?_); simp only [go_sem, st0, Tryz.ntmps187]
 refine iZ (a1n q true hq hw) ?_
 exact aA ⟨⟨_, rfl, by simp only [go_sem]⟩, trivial⟩
theorem a8Z (q : List TNode) (hq : okQ q = true) (hw : eU q ≤ 4300000) : FnC Tryz.prog 164 [.o (.d (.sl (q.map bS)))] (.o (.w 9 1 ((putL (dH q false)).map iQ))) := by
 refine ent Tryz.func164 rfl Tryz.call164 rfl (fun C => ?_); simp only [go_sem, st0, Tryz.ntmps164]
 refine iZ (a1o q false hq hw) ?_
 exact aA ⟨⟨_, rfl, by simp only [go_sem]⟩, trivial⟩
theorem a7x (q : List TNode) (hq : okQ q = true) (hw : eU q ≤ 4300000) : FnC Tryz.prog 166 [.o (.d (.sl (q.map bS)))] (.o (.w 9 1 ((putL (dH q true)).map iQ))) := by
 refine ent Tryz.func166 rfl Tryz.call166 rfl (fun C => ?_); simp only [go_sem, st0, Tryz.ntmps166]
 refine iZ (a1o q true hq hw) ?_
 exact aA ⟨⟨_, rfl, by simp only [go_sem]⟩, trivial⟩
end Go.Proofs.YtakopfjdmmnjcaaGreat
end
