/- Joined texts. -/
import Derived.Test.YtakopfjdmmnjcaaGreatDoorZ15
import Derived.Test.YtakopfjdmmnjcaaGreatDoorZ17
import Derived.Test.YtakopfjdmmnjcaaGreatDoorZ09
import Derived.Test.YtakopfjdmmnjcaaGreatDoorZ11
import Derived.Test.YtakopfjdmmnjcaaGreatDoorZ13
import Derived.Test.YtakopfjdmmnjcaaGreatDoorZ05
import Derived.Test.YtakopfjdmmnjcaaGreatDoorZ07
set_option linter.all false
section
set_option maxRecDepth 100000
set_option maxHeartbeats 4000000
namespace Go.Sx
open Go Go.RowKit
theorem CallS.nilArg {E : Env} {f : Nat} {a0 : SV} {rest : List SV} {st : St} {K : St → SV → Prop} (ty sz : Nat) (h : CallS E f (a0 :: .o (.s st.h.length) :: rest) (st.push (.row ty sz [] true)) K) : CallS E f (a0 :: .o .z :: rest) st K :=
 ⟨h.1, fun g V a w vs hr hl ha => h.2 _ V a w vs (hr.nilRow ty sz) (by simpa using hl) fun i s y e1 e2 => by
  match i with
  | 0 => exact (ha 0 s y e1 e2).mono (GLe.push _ _) (View.le.refl V)
  | 1 =>
   simp only [List.getElem?_cons_succ, List.getElem?_cons_zero, Option.some.injEq] at e1
   subst e1
   have hz : y = .slice none 0 0 := ha 1 (.o .z) y rfl e2
   subst hz
   exact ⟨⟨none, .slice none 0 0, [], []⟩, by rw [← hr.hp.glen, List.getElem?_append_right (Nat.le_refl _)]; simp, rfl, rfl⟩
  | i + 2 => exact (ha (i + 2) s y (by simpa using e1) e2).mono (GLe.push _ _) (View.le.refl V)⟩
end Go.Sx
namespace Go.Proofs.YtakopfjdmmnjcaaGreatDoor
open Go Go.Sx Go.RowKit Go.Proofs
theorem b8m {f ty : Nat} {fn : Func} {c : Code} {rs : List ResultVar} {ds : List D} {tyR sz : Nat} {rows : List (List D)} {args : List SV} {α : Type} {Q : α → Prop} {rows' : α → List (List D)} {ds' : α → List D} (hf : Tryz.prog.funcs[f]? = some fn) (hb : fn.body = some c) (hcall : ∀ x w, (callFunc f x).run Tryz.prog w = .ok (.enter f x) w) (hres : fn.results = rs.toArray)
    (h : ∀ (C : Ctx) (b : Nat), WP Tryz.prog C c (bW Tryz.prog C [] (b7f (EV C) rs b ty tyR sz Q rows' ds')) (stG b ty ds tyR sz rows args fn.ntmps)) : FnG Tryz.prog f ty ds tyR sz rows args Q rows' ds' := FnG.of_wp (eqk := eqk) ttOK hf hb hcall hres h
theorem a5f {C : Ctx} {f ty id id2 : Nat} {ds : List D} {tyR sz : Nat} {rows : List (List D)} {args' rest : List SV} {α : Type} {Q : α → Prop} {rows' : α → List (List D)} {ds' : α → List D} {st : St} {K : St → SV → Prop} (h : FnG Tryz.prog f ty ds tyR sz rows args' Q rows' ds')
    (hid : a6b ty ds (bM st.h id)) (hid2 : bM st.h id2 = .row tyR sz rows true) (hflat : gB rows = true) (he : rest.map (eB st.h) = args') (hfree : args'.all bI = true)
    (k : ∀ a, Q a → K ⟨st.t, setH (eT st.h [id2]) id (reD (ds' a) (bM st.h id)) ++ adH [.w tyR sz (rows' a)]⟩ (adS (setH (eT st.h [id2]) id (reD (ds' a) (bM st.h id))).length (.o (.w tyR sz (rows' a))))) : CallT (EV C) f (.o (.p id 0) :: .o (.s id2) :: rest) st K ⟨⟩ := ⟨CallS.giveB (E := EV C) h hid hid2 hflat he hfree k⟩
theorem b7c {C : Ctx} {f : Nat} {a0 : SV} {rest : List SV} {st : St} {K : St → SV → Prop} (ty sz : Nat) (h : CallT (EV C) f (a0 :: .o (.s st.h.length) :: rest) ⟨st.t, st.h ++ [.row ty sz [] true]⟩ K ⟨⟩) : CallT (EV C) f (a0 :: .o .z :: rest) st K ⟨⟩ := ⟨CallS.nilArg (E := EV C) ty sz h.out⟩
structure nodeD (n : TNode) : Prop where
 nm : n.fName.size ≤ 7
 vs : n.fValue.fStr.size ≤ 7
 wf : b3b n
@[go_sem] def nmF : List ByteArray := [⟨#[97]⟩, ⟨#[98]⟩, ⟨#[110]⟩, ⟨#[116]⟩]
@[go_sem] def wdF : List ByteArray := [⟨#[114, 101, 100]⟩, ⟨#[98, 108, 117, 101]⟩]
@[go_sem] def nmL : List ByteArray := [⟨#[97]⟩, ⟨#[98]⟩]
theorem gV {op a b k x : Int} {nm s : ByteArray} (h1 : inR .i64 op) (h2 : inR .i64 a) (h3 : inR .i64 b) (h4 : nm.size ≤ 7) (h5 : inR .i64 k) (h6 : inR .i64 x) (h7 : s.size ≤ 7) : nodeD ⟨op, a, b, nm, ⟨k, x, s⟩⟩ :=
 ⟨h4, h7, h1, h2, h3, (show nm.size ≤ _ by omega), h5, h6, (show s.size ≤ _ by omega)⟩
theorem inS {x : Int} (h : -10 ≤ x ∧ x ≤ 1000) : inR .i64 x := by simp only [inR]; omega
theorem lX {l : List Int} (hl : fP l) : Drw l 138 [] (fun n : TNode => nodeD n) (fun n => b0k n) := by
 intro i h hi hh; refine nI Tryz.func138 rfl Tryz.call138 rfl (fun C b => ?_); simp only [go_sem, Tryz.ntmps138]
 refine aD ?_
 first | (refine aR (aH hl 9 (by decide) (by decide) i h hi hh) ⟨rfl, rfl⟩ ?_ rfl ?_; (focus first | rfl | (simp only [go_sem]; done))) | (refine hZ (aH hl 9 (by decide) (by decide) i h hi hh) ⟨rfl, rfl⟩ ?_ rfl ?_; (focus first | rfl | (simp only [go_sem]; done)))
 clear hi hh; rintro ⟨k, i, h⟩ ⟨hk, hi, hh⟩; simp only at hk hi hh; simp only [go_sem]
 have z0 : (⟨#[]⟩ : ByteArray).size ≤ 7 := Nat.zero_le _
 have h9 : k = 0 ∨ k = 1 ∨ k = 2 ∨ k = 3 ∨ k = 4 ∨ k = 5 ∨ k = 6 ∨ k = 7 ∨ k = 8 := by omega
 rcases h9 with rfl | rfl | rfl | rfl | rfl | rfl | rfl | rfl | rfl
 ·refine aD ?_
  exact aJ (⟨1, 0, 0, ⟨#[]⟩, ⟨0, 0, ⟨#[]⟩⟩⟩, i, h) ⟨⟨_, rfl, by simp only [go_sem]⟩, trivial⟩ ⟨gV (inS (by decide)) in0 in0 z0 in0 in0 z0, ⟨hi, hh⟩⟩ (by simp only [go_sem])
 ·refine aD ?_
  first | (refine aR (dG hl nmF (by decide) (by decide) i h hi hh) ⟨rfl, rfl⟩ ?_ rfl ?_; (focus first | rfl | (simp only [go_sem]; done))) | (refine hZ (dG hl nmF (by decide) (by decide) i h hi hh) ⟨rfl, rfl⟩ ?_ rfl ?_; (focus first | rfl | (simp only [go_sem]; done)))
  clear hi hh; rintro ⟨s, i, h⟩ ⟨hs, hi, hh⟩; simp only at hs hi hh; simp only [go_sem]
  have hw := (by decide +kernel : ∀ s ∈ nmF, s.size ≤ 7) s hs
  refine aD ?_
  exact aJ (⟨2, 0, 0, s, ⟨0, 0, ⟨#[]⟩⟩⟩, i, h) ⟨⟨_, rfl, by simp only [go_sem]⟩, trivial⟩ ⟨gV (inS (by decide)) in0 in0 hw in0 in0 z0, ⟨hi, hh⟩⟩ (by simp only [go_sem])
 ·refine aD ?_
  first | (refine aR (aH hl 4 (by decide) (by decide) i h hi hh) ⟨rfl, rfl⟩ ?_ rfl ?_; (focus first | rfl | (simp only [go_sem]; done))) | (refine hZ (aH hl 4 (by decide) (by decide) i h hi hh) ⟨rfl, rfl⟩ ?_ rfl ?_; (focus first | rfl | (simp only [go_sem]; done)))
  clear hi hh; rintro ⟨x, i, h⟩ ⟨hx, hi, hh⟩; simp only at hx hi hh; simp only [go_sem]
  refine iE (pG x) ?_
  exact aJ (⟨3, 0, 0, ⟨#[97]⟩, ⟨1, x, ⟨#[]⟩⟩⟩, i, h) ⟨⟨_, rfl, by simp only [go_sem]⟩, trivial⟩ ⟨gV (inS (by decide)) in0 in0 (by decide) in1 (inS (by omega)) z0, ⟨hi, hh⟩⟩ (by simp only [go_sem])
 ·refine aD ?_
  first | (refine aR (dG hl wdF (by decide) (by decide) i h hi hh) ⟨rfl, rfl⟩ ?_ rfl ?_; (focus first | rfl | (simp only [go_sem]; done))) | (refine hZ (dG hl wdF (by decide) (by decide) i h hi hh) ⟨rfl, rfl⟩ ?_ rfl ?_; (focus first | rfl | (simp only [go_sem]; done)))
  clear hi hh; rintro ⟨s, i, h⟩ ⟨hs, hi, hh⟩; simp only at hs hi hh; simp only [go_sem]
  have hw := (by decide +kernel : ∀ s ∈ wdF, s.size ≤ 7) s hs
  refine iE (rY s) ?_
  exact aJ (⟨3, 0, 0, ⟨#[116]⟩, ⟨2, 0, s⟩⟩, i, h) ⟨⟨_, rfl, by simp only [go_sem]⟩, trivial⟩ ⟨gV (inS (by decide)) in0 in0 (by decide) in2 in0 hw, ⟨hi, hh⟩⟩ (by simp only [go_sem])
 ·refine aD ?_
  first | (refine aR (dG hl nmL (by decide) (by decide) i h hi hh) ⟨rfl, rfl⟩ ?_ rfl ?_; (focus first | rfl | (simp only [go_sem]; done))) | (refine hZ (dG hl nmL (by decide) (by decide) i h hi hh) ⟨rfl, rfl⟩ ?_ rfl ?_; (focus first | rfl | (simp only [go_sem]; done)))
  clear hi hh; rintro ⟨s, i, h⟩ ⟨hs, hi, hh⟩; simp only at hs hi hh; simp only [go_sem]
  have hw := (by decide +kernel : ∀ s ∈ nmL, s.size ≤ 7) s hs
  refine aD ?_
  first | (refine aR (aH hl 3 (by decide) (by decide) i h hi hh) ⟨rfl, rfl⟩ ?_ rfl ?_; (focus first | rfl | (simp only [go_sem]; done))) | (refine hZ (aH hl 3 (by decide) (by decide) i h hi hh) ⟨rfl, rfl⟩ ?_ rfl ?_; (focus first | rfl | (simp only [go_sem]; done)))
  clear hi hh; rintro ⟨x, i, h⟩ ⟨hx, hi, hh⟩; simp only at hx hi hh; simp only [go_sem]
  refine iE (pG ((1 : Int) + x)) ?_
  exact aJ (⟨4, 0, 0, s, ⟨1, 1 + x, ⟨#[]⟩⟩⟩, i, h) ⟨⟨_, rfl, by simp only [go_sem]⟩, trivial⟩ ⟨gV (inS (by decide)) in0 in0 hw in1 (inS (by omega)) z0, ⟨hi, hh⟩⟩ (by simp only [go_sem])
 ·refine aD ?_
  first | (refine aR (iQ hl i h hi hh) ⟨rfl, rfl⟩ ?_ rfl ?_; (focus first | rfl | (simp only [go_sem]; done))) | (refine hZ (iQ hl i h hi hh) ⟨rfl, rfl⟩ ?_ rfl ?_; (focus first | rfl | (simp only [go_sem]; done)))
  clear hi hh; rintro ⟨s, i, h⟩ ⟨hs, hi, hh⟩; simp only at hs hi hh; simp only [go_sem]
  have hw : s.size ≤ 7 := by unfold w1 at hs; omega
  refine aD ?_
  exact aJ (⟨8, 0, 0, s, ⟨0, 0, ⟨#[]⟩⟩⟩, i, h) ⟨⟨_, rfl, by simp only [go_sem]⟩, trivial⟩ ⟨gV (inS (by decide)) in0 in0 hw in0 in0 z0, ⟨hi, hh⟩⟩ (by simp only [go_sem])
 ·refine aD ?_
  first | (refine aR (iQ hl i h hi hh) ⟨rfl, rfl⟩ ?_ rfl ?_; (focus first | rfl | (simp only [go_sem]; done))) | (refine hZ (iQ hl i h hi hh) ⟨rfl, rfl⟩ ?_ rfl ?_; (focus first | rfl | (simp only [go_sem]; done)))
  clear hi hh; rintro ⟨s, i, h⟩ ⟨hs, hi, hh⟩; simp only at hs hi hh; simp only [go_sem]
  have hw : s.size ≤ 7 := by unfold w1 at hs; omega
  refine aD ?_
  exact aJ (⟨8, 0, 0, s, ⟨0, 0, ⟨#[]⟩⟩⟩, i, h) ⟨⟨_, rfl, by simp only [go_sem]⟩, trivial⟩ ⟨gV (inS (by decide)) in0 in0 hw in0 in0 z0, ⟨hi, hh⟩⟩ (by simp only [go_sem])
 ·refine aD ?_
  first | (refine aR (iQ hl i h hi hh) ⟨rfl, rfl⟩ ?_ rfl ?_; (focus first | rfl | (simp only [go_sem]; done))) | (refine hZ (iQ hl i h hi hh) ⟨rfl, rfl⟩ ?_ rfl ?_; (focus first | rfl | (simp only [go_sem]; done)))
  clear hi hh; rintro ⟨s, i, h⟩ ⟨hs, hi, hh⟩; simp only at hs hi hh; simp only [go_sem]
  have hw : s.size ≤ 7 := by unfold w1 at hs; omega
  refine aD ?_
  exact aJ (⟨9, 0, 0, s, ⟨0, 0, ⟨#[]⟩⟩⟩, i, h) ⟨⟨_, rfl, by simp only [go_sem]⟩, trivial⟩ ⟨gV (inS (by decide)) in0 in0 hw in0 in0 z0, ⟨hi, hh⟩⟩ (by simp only [go_sem])
 ·refine aD ?_
  first | (refine aR (aH hl 4 (by decide) (by decide) i h hi hh) ⟨rfl, rfl⟩ ?_ rfl ?_; (focus first | rfl | (simp only [go_sem]; done))) | (refine hZ (aH hl 4 (by decide) (by decide) i h hi hh) ⟨rfl, rfl⟩ ?_ rfl ?_; (focus first | rfl | (simp only [go_sem]; done)))
  clear hi hh; rintro ⟨x, i, h⟩ ⟨hx, hi, hh⟩; simp only at hx hi hh; simp only [go_sem]
  refine iE (pG x) ?_
  exact aJ (⟨3, 0, 0, ⟨#[98]⟩, ⟨1, x, ⟨#[]⟩⟩⟩, i, h) ⟨⟨_, rfl, by simp only [go_sem]⟩, trivial⟩ ⟨gV (inS (by decide)) in0 in0 (by decide) in1 (inS (by omega)) z0, ⟨hi, hh⟩⟩ (by simp only [go_sem])
structure qryD (p m : Nat) (q : List TNode) : Prop where
 lo : p < q.length
 hi : q.length ≤ m
 nd : ∀ n ∈ q, nodeD n
theorem pW {p m : Nat} {q : List TNode} {n : TNode} (h : ∀ x ∈ q, nodeD x) (hn : nodeD n) (h1 : p ≤ q.length) (h2 : q.length + 1 ≤ m) : qryD p m (q ++ [n]) := ⟨by simp; omega, by simp; omega, fun x hx => by
 rcases List.mem_append.1 hx with hx | hx
 ·exact h x hx
 ·simp only [List.mem_singleton] at hx; subst hx; exact hn⟩
theorem a8a (q : List TNode) : gB (q.map bN) = true := by
 unfold gB
 simp [bN, isV]
theorem b7d {q : List TNode} {m : Nat} (hl : q.length ≤ m) (h : ∀ n ∈ q, nodeD n) : eU q ≤ m * 15 := by
 have : ∀ (q : List TNode), (∀ n ∈ q, nodeD n) → bG zY q ≤ q.length * 14 := fun q => by
  induction q with
  | nil => intro _; simp [bG]
  | cons x q ih =>
   intro h
   have h1 := (h x List.mem_cons_self).nm
   have h3 := (h x List.mem_cons_self).vs
   have h4 : zY x = x.fName.size + x.fValue.fStr.size := rfl
   have h2 := ih fun n hn => h n (List.mem_cons_of_mem _ hn)
   simp only [bG, List.length_cons, Nat.add_mul]
   omega
 have h2 := this q h
 unfold eU
 omega
theorem wK {l : List Int} (hl : fP l) (nt : Bool) (i : Nat) (h : Int) (q : List TNode) (hi : i ≤ l.length) (hh : inR .i64 h) (hq : q.length ≤ 100) (hn : ∀ n ∈ q, nodeD n) :
    FnG Tryz.prog 139 77 (a3i l i h) 147 7 (q.map bN) [oi 0, ob nt] (fun x : List TNode × Nat × Int => qryD q.length (q.length + 1) x.1 ∧ (x.2.1 ≤ l.length ∧ inR .i64 x.2.2)) (fun x => x.1.map bN) (fun x => a3i l x.2.1 x.2.2) := by
 have hl1 : q.length + 1 ≤ 140737488355328 := by omega
 have hl2 : (q.length + 1) * 72 ≤ 140737488355328 := by omega
 refine b8m Tryz.func139 rfl Tryz.call139 rfl (fun C b => ?_); simp only [go_sem, stG, Tryz.ntmps139]
 refine aD ?_
 first | (refine aR (lX hl i h hi hh) ⟨rfl, rfl⟩ ?_ rfl ?_; (focus first | rfl | (simp only [go_sem]; done))) | (refine hZ (lX hl i h hi hh) ⟨rfl, rfl⟩ ?_ rfl ?_; (focus first | rfl | (simp only [go_sem]; done)))
 clear hi hh; rintro ⟨n, i, h⟩ ⟨hnn, hi, hh⟩; simp only at hnn hi hh; simp only [go_sem]
 have q0 := @hl1; have q1 := @hl2; refine gG ?_
 exact sJ (q ++ [n], i, h) 1 ⟨pW hn hnn (Nat.le_refl _) (by omega), hi, hh⟩ (by simp only [go_sem]) (by simp only [go_sem, List.map_append]; try simp [bN]) (by simp only [go_sem])
theorem a9y {l : List Int} (hl : fP l) (nt : Bool) : ∀ (d : Nat) (i : Nat) (h : Int) (q : List TNode), i ≤ l.length → inR .i64 h → q.length + 3 * d ≤ 100 → (∀ n ∈ q, nodeD n) →
    FnG Tryz.prog 139 77 (a3i l i h) 147 7 (q.map bN) [oi (d : Nat), ob nt] (fun x : List TNode × Nat × Int => qryD q.length (q.length + 1 + 2 * d) x.1 ∧ (x.2.1 ≤ l.length ∧ inR .i64 x.2.2)) (fun x => x.1.map bN) (fun x => a3i l x.2.1 x.2.2) := by
 intro d
 induction d with
 | zero => intro i h q hi hh hq hn; exact wK hl nt i h q hi hh (by omega) hn
 | succ d ih =>
  intro i h q hi hh hq hn
  have hl1 : q.length + 1 ≤ 140737488355328 := by omega
  have hl2 : (q.length + 1) * 72 ≤ 140737488355328 := by omega
  have hd0 : ((d : Int) + 1 = 0) = False := by simp; omega
  have hd1 : (d : Int) + 1 - 1 = (d : Int) := by omega
  refine b8m Tryz.func139 rfl Tryz.call139 rfl (fun C b => ?_); simp only [go_sem, stG, Tryz.ntmps139, Int.natCast_add, Int.cast_ofNat_Int]
  have q0 := @hd0; refine fF ?_
  first | (refine aR (dQ hl 3 (by decide) (by decide) i h hi hh) ⟨rfl, rfl⟩ ?_ rfl ?_; (focus first | rfl | (simp only [go_sem]; done))) | (refine hZ (dQ hl 3 (by decide) (by decide) i h hi hh) ⟨rfl, rfl⟩ ?_ rfl ?_; (focus first | rfl | (simp only [go_sem]; done)))
  clear hi hh; rintro ⟨c1, i, h⟩ ⟨q1, hi, hh⟩; simp only at q1 hi hh; simp only [go_sem]
  cases c1
  case true =>
   refine aD ?_
   first | (refine aR (lX hl i h hi hh) ⟨rfl, rfl⟩ ?_ rfl ?_; (focus first | rfl | (simp only [go_sem]; done))) | (refine hZ (lX hl i h hi hh) ⟨rfl, rfl⟩ ?_ rfl ?_; (focus first | rfl | (simp only [go_sem]; done)))
   clear hi hh; rintro ⟨n, i, h⟩ ⟨hnn, hi, hh⟩; simp only at hnn hi hh; simp only [go_sem]
   have q0 := @hl1; have q1 := @hl2; refine gG ?_
   exact sJ (q ++ [n], i, h) 1 ⟨pW hn hnn (Nat.le_refl _) (by omega), hi, hh⟩ (by simp only [go_sem]) (by simp only [go_sem, List.map_append]; try simp [bN]) (by simp only [go_sem])
  refine aD ?_
  first | (refine aR (aH hl 5 (by decide) (by decide) i h hi hh) ⟨rfl, rfl⟩ ?_ rfl ?_; (focus first | rfl | (simp only [go_sem]; done))) | (refine hZ (aH hl 5 (by decide) (by decide) i h hi hh) ⟨rfl, rfl⟩ ?_ rfl ?_; (focus first | rfl | (simp only [go_sem]; done)))
  clear hi hh; rintro ⟨k, i, h⟩ ⟨hk, hi, hh⟩; simp only at hk hi hh; simp only [go_sem]
  have two : ∀ (x : List TNode × Nat × Int), qryD q.length (q.length + 1 + 2 * d) x.1 → x.1.length ≤ 100 := fun x hx => by have := hx.hi; omega
  by_cases k0 : k = 0
  ·cases nt
   case true =>
    have q0 := @k0; have q1 := @hd1; have q2 := @decide_true; refine jJ ?_
    refine a5f (ih i h q hi hh (by omega) hn) ⟨rfl, rfl⟩ rfl (a8a q) (by simp only [go_sem, hd1]) rfl ?_
    clear hi hh
    rintro ⟨p2, i, h⟩ ⟨hq2, hi, hh⟩
    simp only at hq2 hi hh
    have g1 := hq2.hi
    have g2 := hq2.lo
    have hm1 : p2.length + 1 ≤ 140737488355328 := by omega
    have hm2 : (p2.length + 1) * 72 ≤ 140737488355328 := by omega
    simp only [go_sem]
    have q0 := @hm1; have q1 := @hm2; refine gG ?_
    exact sJ (p2 ++ [⟨5, (p2.length : Int) - 1, 0, ⟨#[]⟩, ⟨0, 0, ⟨#[]⟩⟩⟩], i, h) 2 ⟨pW hq2.nd (gV (inS (by decide)) (inS (by omega)) in0 (Nat.zero_le _) in0 in0 (Nat.zero_le _)) (by omega) (by omega), hi, hh⟩ (by simp only [go_sem]) (by simp only [go_sem, List.map_append]; try simp [bN]) (by simp only [go_sem])
   have q0 := @k0; have q1 := @hd1; have q2 := @decide_true; refine jJ ?_
   refine a5f (ih i h q hi hh (by omega) hn) ⟨rfl, rfl⟩ rfl (a8a q) (by simp only [go_sem, hd1]) rfl ?_
   clear hi hh
   rintro ⟨p2, i, h⟩ ⟨hq2, hi, hh⟩
   simp only at hq2 hi hh
   have g1 := hq2.hi
   have g2 := hq2.lo
   simp only [go_sem]
   refine aD ?_
   refine a5f (wK hl false i h p2 hi hh (by omega) hq2.nd) ⟨rfl, rfl⟩ rfl (a8a p2) (by simp only [go_sem]) rfl ?_
   clear hi hh
   rintro ⟨p3, i, h⟩ ⟨hq3, hi, hh⟩
   simp only at hq3 hi hh
   have g3 := hq3.hi
   have g4 := hq3.lo
   have hm1 : p3.length + 1 ≤ 140737488355328 := by omega
   have hm2 : (p3.length + 1) * 72 ≤ 140737488355328 := by omega
   simp only [go_sem]
   have k3 : k < 3 := by omega
   have q0 := @k3; have q1 := @decide_true; have q2 := @hm1; have q3 := @hm2; refine jW ?_
   exact sJ (p3 ++ [⟨6, (p2.length : Int) - 1, (p3.length : Int) - 1, ⟨#[]⟩, ⟨0, 0, ⟨#[]⟩⟩⟩], i, h) 3 ⟨pW hq3.nd (gV (inS (by decide)) (inS (by omega)) (inS (by omega)) (Nat.zero_le _) in0 in0 (Nat.zero_le _)) (by omega) (by omega), hi, hh⟩ (by simp only [go_sem]) (by simp only [go_sem, List.map_append]; try simp [bN]) (by simp only [go_sem])
  ·have q0 := @k0; have q1 := @hd1; have q2 := @decide_false; refine jJ ?_
   refine a5f (ih i h q hi hh (by omega) hn) ⟨rfl, rfl⟩ rfl (a8a q) (by simp only [go_sem, hd1]) rfl ?_
   clear hi hh
   rintro ⟨p2, i, h⟩ ⟨hq2, hi, hh⟩
   simp only at hq2 hi hh
   have g1 := hq2.hi
   have g2 := hq2.lo
   simp only [go_sem]
   refine aD ?_
   refine a5f (wK hl nt i h p2 hi hh (by omega) hq2.nd) ⟨rfl, rfl⟩ rfl (a8a p2) (by simp only [go_sem]) rfl ?_
   clear hi hh
   rintro ⟨p3, i, h⟩ ⟨hq3, hi, hh⟩
   simp only at hq3 hi hh
   have g3 := hq3.hi
   have g4 := hq3.lo
   have hm1 : p3.length + 1 ≤ 140737488355328 := by omega
   have hm2 : (p3.length + 1) * 72 ≤ 140737488355328 := by omega
   simp only [go_sem]
   by_cases k3 : k < 3
   ·have q0 := @k3; have q1 := @decide_true; have q2 := @hm1; have q3 := @hm2; refine jW ?_
    exact sJ (p3 ++ [⟨6, (p2.length : Int) - 1, (p3.length : Int) - 1, ⟨#[]⟩, ⟨0, 0, ⟨#[]⟩⟩⟩], i, h) 3 ⟨pW hq3.nd (gV (inS (by decide)) (inS (by omega)) (inS (by omega)) (Nat.zero_le _) in0 in0 (Nat.zero_le _)) (by omega) (by omega), hi, hh⟩ (by simp only [go_sem]) (by simp only [go_sem, List.map_append]; try simp [bN]) (by simp only [go_sem])
   ·have q0 := @k3; have q1 := @decide_false; have q2 := @hm1; have q3 := @hm2; refine jW ?_
    exact sJ (p3 ++ [⟨7, (p2.length : Int) - 1, (p3.length : Int) - 1, ⟨#[]⟩, ⟨0, 0, ⟨#[]⟩⟩⟩], i, h) 3 ⟨pW hq3.nd (gV (inS (by decide)) (inS (by omega)) (inS (by omega)) (Nat.zero_le _) in0 in0 (Nat.zero_le _)) (by omega) (by omega), hi, hh⟩ (by simp only [go_sem]) (by simp only [go_sem, List.map_append]; try simp [bN]) (by simp only [go_sem])
theorem bF {l : List Int} (hl : fP l) : Drw l 124 [] (fun q : List TNode => qryD 0 7 q) (fun q => .o (.w 147 7 (q.map bN))) := by
 intro i h hi hh; refine nI Tryz.func124 rfl Tryz.call124 rfl (fun C b => ?_); simp only [go_sem, Tryz.ntmps124]
 refine aD ?_
 first | (refine aR (aH hl 4 (by decide) (by decide) i h hi hh) ⟨rfl, rfl⟩ ?_ rfl ?_; (focus first | rfl | (simp only [go_sem]; done))) | (refine hZ (aH hl 4 (by decide) (by decide) i h hi hh) ⟨rfl, rfl⟩ ?_ rfl ?_; (focus first | rfl | (simp only [go_sem]; done)))
 clear hi hh; rintro ⟨x, i, h⟩ ⟨hx, hi, hh⟩; simp only at hx hi hh; simp only [go_sem]
 obtain ⟨d, rfl⟩ := Int.eq_ofNat_of_zero_le hx.1
 refine aD ?_
 refine b7c 147 7 ?_
 refine a5f (a9y hl true d i h [] hi hh (by simp; omega) (fun n hn => by simp at hn)) ⟨rfl, rfl⟩ rfl rfl (by simp only [go_sem]) rfl ?_
 clear hi hh
 rintro ⟨q, i, h⟩ ⟨hq, hi, hh⟩
 simp only at hq hi hh
 simp only [go_sem]
 refine aD ?_
 have g1 := hq.hi
 simp only [List.length_nil] at g1
 exact aJ (q, i, h) ⟨⟨_, rfl, by simp only [go_sem]⟩, trivial⟩ ⟨(show qryD 0 7 q from ⟨hq.lo, by omega, hq.nd⟩), ⟨hi, hh⟩⟩ (by simp only [go_sem])
@[go_sem] def b7e : List ByteArray := [⟨#[]⟩, ⟨#[97]⟩, ⟨#[100, 97]⟩, ⟨#[97, 98, 99, 100, 101, 102, 103]⟩, ⟨#[65]⟩]
structure qryA (q : List TNode) : Prop where
 hi : q.length ≤ 8
 nd : ∀ n ∈ q, nodeD n
theorem a6p {q : List TNode} (h : ∀ n ∈ q, nodeD n) (k : Nat) {n : TNode} (hn : nodeD n) : ∀ x ∈ q.set k n, nodeD x := fun x hx => by
 rcases List.mem_or_eq_of_mem_set hx with hx | rfl
 ·exact h x hx
 ·exact hn
theorem a5g {l : List Int} (hl : fP l) : Drw l 123 [] (fun q : List TNode => qryA q) (fun q => .o (.w 147 7 (q.map bN))) := by
 intro i h hi hh; refine nI Tryz.func123 rfl Tryz.call123 rfl (fun C b => ?_); simp only [go_sem, Tryz.ntmps123]
 refine aD ?_
 first | (refine aR (bF hl i h hi hh) ⟨rfl, rfl⟩ ?_ rfl ?_; (focus first | rfl | (simp only [go_sem]; done))) | (refine hZ (bF hl i h hi hh) ⟨rfl, rfl⟩ ?_ rfl ?_; (focus first | rfl | (simp only [go_sem]; done)))
 clear hi hh; rintro ⟨q, i, h⟩ ⟨hq, hi, hh⟩; simp only at hq hi hh; simp only [go_sem]
 have hlo := hq.lo
 have hhi := hq.hi
 have hnd := hq.nd
 clear hq
 refine aD ?_
 first | (refine aR (aH hl (q.length : Int) (by omega) (by omega) i h hi hh) ⟨rfl, rfl⟩ ?_ rfl ?_; (focus first | rfl | (simp only [go_sem]; done))) | (refine hZ (aH hl (q.length : Int) (by omega) (by omega) i h hi hh) ⟨rfl, rfl⟩ ?_ rfl ?_; (focus first | rfl | (simp only [go_sem]; done)))
 clear hi hh; rintro ⟨x, i, h⟩ ⟨hx, hi, hh⟩; simp only at hx hi hh; simp only [go_sem]
 obtain ⟨k, rfl⟩ := Int.eq_ofNat_of_zero_le hx.1
 have hk : k < q.length := by omega
 have hn := hnd q[k] (List.getElem_mem hk)
 have hw := hn.nm
 have hx2 := hn.vs
 have hf := hn.wf
 have hv := hf.2.2.2.2
 refine aD ?_
 first | (refine aR (aH hl 10 (by decide) (by decide) i h hi hh) ⟨rfl, rfl⟩ ?_ rfl ?_; (focus first | rfl | (simp only [go_sem]; done))) | (refine hZ (aH hl 10 (by decide) (by decide) i h hi hh) ⟨rfl, rfl⟩ ?_ rfl ?_; (focus first | rfl | (simp only [go_sem]; done)))
 clear hi hh; rintro ⟨c, i, h⟩ ⟨hc, hi, hh⟩; simp only at hc hi hh; simp only [go_sem]
 have hl1 : q.length + 1 ≤ 140737488355328 := by omega
 have hl2 : (q.length + 1) * 72 ≤ 140737488355328 := by omega
 have h6 : c = 0 ∨ c = 1 ∨ c = 2 ∨ c = 3 ∨ c = 4 ∨ c = 5 ∨ (¬ c = 0 ∧ ¬ c = 1 ∧ ¬ c = 2 ∧ ¬ c = 3 ∧ ¬ c = 4 ∧ ¬ c = 5) := by omega
 rcases h6 with rfl | rfl | rfl | rfl | rfl | rfl | ⟨k0, k1, k2, k3, k4, k5⟩
 ·have q0 := @hk; refine fF ?_
  first | (refine aR (aH hl 12 (by decide) (by decide) i h hi hh) ⟨rfl, rfl⟩ ?_ rfl ?_; (focus first | rfl | (simp only [go_sem]; done))) | (refine hZ (aH hl 12 (by decide) (by decide) i h hi hh) ⟨rfl, rfl⟩ ?_ rfl ?_; (focus first | rfl | (simp only [go_sem]; done)))
  clear hi hh; rintro ⟨y, i, h⟩ ⟨hy, hi, hh⟩; simp only at hy hi hh; simp only [go_sem]
  have q0 := @hk; refine fF ?_
  exact aJ (q.set k ⟨y - 1, q[k].fLeft, q[k].fRight, q[k].fName, q[k].fValue⟩, i, h) ⟨⟨_, rfl, by simp only [go_sem, List.map_set]⟩, trivial⟩ ⟨(show qryA (q.set k ⟨y - 1, q[k].fLeft, q[k].fRight, q[k].fName, q[k].fValue⟩) from ⟨by simp; omega, a6p hnd k ⟨hw, hx2, (show inR .i64 (y - 1) from inS (by omega)), hf.2⟩⟩), ⟨hi, hh⟩⟩ (by simp only [go_sem])
 ·have q0 := @hk; refine fF ?_
  first | (refine aR (eX hl [-1, 0, (k : Int), 8, 9223372036854775807] (by simp) (by simp) i h hi hh) ⟨rfl, rfl⟩ ?_ rfl ?_; (focus first | rfl | (simp only [go_sem]; done))) | (refine hZ (eX hl [-1, 0, (k : Int), 8, 9223372036854775807] (by simp) (by simp) i h hi hh) ⟨rfl, rfl⟩ ?_ rfl ?_; (focus first | rfl | (simp only [go_sem]; done)))
  clear hi hh; rintro ⟨y, i, h⟩ ⟨hy, hi, hh⟩; simp only at hy hi hh; simp only [go_sem]
  have hy2 : inR .i64 y := by
   simp only [List.mem_cons, List.not_mem_nil, or_false] at hy
   simp only [inR]
   omega
  have q0 := @hk; refine fF ?_
  exact aJ (q.set k ⟨q[k].fOp, y, q[k].fRight, q[k].fName, q[k].fValue⟩, i, h) ⟨⟨_, rfl, by simp only [go_sem, List.map_set]⟩, trivial⟩ ⟨(show qryA (q.set k ⟨q[k].fOp, y, q[k].fRight, q[k].fName, q[k].fValue⟩) from ⟨by simp; omega, a6p hnd k ⟨hw, hx2, hf.1, hy2, hf.2.2⟩⟩), ⟨hi, hh⟩⟩ (by simp only [go_sem])
 ·have q0 := @hk; refine fF ?_
  first | (refine aR (dG hl b7e (by decide) (by decide) i h hi hh) ⟨rfl, rfl⟩ ?_ rfl ?_; (focus first | rfl | (simp only [go_sem]; done))) | (refine hZ (dG hl b7e (by decide) (by decide) i h hi hh) ⟨rfl, rfl⟩ ?_ rfl ?_; (focus first | rfl | (simp only [go_sem]; done)))
  clear hi hh; rintro ⟨y, i, h⟩ ⟨hy, hi, hh⟩; simp only at hy hi hh; simp only [go_sem]
  have hy2 := (by decide +kernel : ∀ n ∈ b7e, n.size ≤ 7) y hy
  have q0 := @hk; refine fF ?_
  exact aJ (q.set k ⟨q[k].fOp, q[k].fLeft, q[k].fRight, y, q[k].fValue⟩, i, h) ⟨⟨_, rfl, by simp only [go_sem, List.map_set]⟩, trivial⟩ ⟨(show qryA (q.set k ⟨q[k].fOp, q[k].fLeft, q[k].fRight, y, q[k].fValue⟩) from ⟨by simp; omega, a6p hnd k ⟨hy2, hx2, hf.1, hf.2.1, hf.2.2.1, (show y.size ≤ _ by omega), hv⟩⟩), ⟨hi, hh⟩⟩ (by simp only [go_sem])
 ·have q0 := @hk; refine fF ?_
  first | (refine aR (lX hl i h hi hh) ⟨rfl, rfl⟩ ?_ rfl ?_; (focus first | rfl | (simp only [go_sem]; done))) | (refine hZ (lX hl i h hi hh) ⟨rfl, rfl⟩ ?_ rfl ?_; (focus first | rfl | (simp only [go_sem]; done)))
  clear hi hh; rintro ⟨y, i, h⟩ ⟨hy, hi, hh⟩; simp only at hy hi hh; simp only [go_sem]
  have q0 := @hk; have q1 := @hl1; have q2 := @hl2; refine jJ ?_
  exact aJ (q ++ [y], i, h) ⟨⟨_, rfl, by simp only [go_sem, List.map_append]; try simp [bN]⟩, trivial⟩ ⟨(show qryA (q ++ [y]) from ⟨by simp; omega, (pW (p := 0) hnd hy (Nat.zero_le _) (Nat.le_refl _)).nd⟩), ⟨hi, hh⟩⟩ (by simp only [go_sem])
 ·have q0 := @hk; refine fF ?_
  first | (refine aR (nV hl i h hi hh) ⟨rfl, rfl⟩ ?_ rfl ?_; (focus first | rfl | (simp only [go_sem]; done))) | (refine hZ (nV hl i h hi hh) ⟨rfl, rfl⟩ ?_ rfl ?_; (focus first | rfl | (simp only [go_sem]; done)))
  clear hi hh; rintro ⟨y, i, h⟩ ⟨hy, hi, hh⟩; simp only at hy hi hh; simp only [go_sem]
  have q0 := @hk; refine fF ?_
  exact aJ (q.set k ⟨q[k].fOp, q[k].fLeft, q[k].fRight, q[k].fName, y⟩, i, h) ⟨⟨_, rfl, by simp only [go_sem, List.map_set]⟩, trivial⟩ ⟨(show qryA (q.set k ⟨q[k].fOp, q[k].fLeft, q[k].fRight, q[k].fName, y⟩) from ⟨by simp; omega, a6p hnd k ⟨hw, hy.w, hf.1, hf.2.1, hf.2.2.1, hf.2.2.2.1, hy.k, hy.n, (show y.fStr.size ≤ _ by have := hy.w; omega)⟩⟩), ⟨hi, hh⟩⟩ (by simp only [go_sem])
 ·refine aD ?_
  exact aJ ([], i, h) ⟨⟨_, rfl, by simp only [go_sem]⟩, trivial⟩ ⟨(show qryA [] from ⟨by simp, fun n hn => by simp at hn⟩), ⟨hi, hh⟩⟩ (by simp only [go_sem])
 ·have q0 := @k0; have q1 := @k1; have q2 := @k2; have q3 := @k3; have q4 := @k4; have q5 := @k5; have q6 := @decide_false; refine a7o ?_
  exact aJ (q, i, h) ⟨⟨_, rfl, by simp only [go_sem]⟩, trivial⟩ ⟨(show qryA q from ⟨by omega, hnd⟩), ⟨hi, hh⟩⟩ (by simp only [go_sem])
end Go.Proofs.YtakopfjdmmnjcaaGreatDoor
end
section
set_option maxRecDepth 100000
set_option maxHeartbeats 4000000
namespace Go.Proofs.YtakopfjdmmnjcaaGreatDoor
open Go Go.Sx Go.RowKit Go.Proofs
theorem b5r (l : List ByteArray) : ∀ r ∈ l.map iV, r.length = 1 := by intro r hr; obtain ⟨x, _, rfl⟩ := List.mem_map.1 hr; rfl
theorem b2c (l : List ByteArray) (s : ByteArray) (hl : l.length ≤ 4300000) : FnC Tryz.prog 190 [.o (.d (.sl (l.map iV))), os s] (.o (.d (.sl ((kC l s).map iV)))) := by
 have hle := a0m (geS s) l
 refine ent Tryz.func190 rfl Tryz.call190 rfl (fun C => ?_); simp only [go_sem, st0, Tryz.ntmps190]
 refine aD ?_
 refine aY (α := Nat) (fun k => [(5, oi k)]) (fun _ => []) (fun k => k ≤ l.length ∧ eP (geS s) l = k + eP (geS s) (l.drop k)) (fun k => l.length - k) 0 (fun _ => ?_) ?_ ?_ (fun k hk => ?_)
 ·simp only [go_sem]
 ·simp only [go_sem]; simp
 ·simp
 ·obtain ⟨hk, hf⟩ := hk
  simp only [go_sem]
  by_cases h1 : k < l.length
  ·have hfx := b1Y (geS s) l k h1 hf
   have h1' : ((k : Int) < (l.length : Int)) = True := by simp [h1]
   have q0 := @h1; have q1 := @h1'; have q2 := @decide_true; refine jJ ?_
   refine cnd (b := dY l[k] s) rfl (fun h2 => ?_) (fun h2 => ?_)
   ·rw [if_neg (by simp [geS, h2])] at hfx
    refine aD ?_
    refine aF (k + 1) ?_ ?_ ?_
    ·simp only [go_sem]; simp
    ·exact ⟨by omega, hfx⟩
    ·omega
   ·rw [if_pos (by simp [geS, h2])] at hfx
    have hd := List.drop_eq_getElem_cons h1
    by_cases h3 : l[k] = s
    ·have hput : kC l s = l := by unfold kC; rw [hfx, hd]; simp [h3]
     have q0 := @h1; have q1 := @h1'; have q2 := @h3; have q3 := @decide_true; refine jW ?_
     exact aA ⟨⟨_, rfl, by simp only [go_sem, hput]⟩, trivial⟩
    ·have hput : kC l s = iX k s l := by unfold kC; rw [hfx, hd]; exact if_neg (fun h => h3 (Option.some.inj h))
     have hn1 : ((0 : Int) ≤ (k : Int)) := by omega
     have qH := aI @h1 (aI @h1' (aI @h3 (aI @hn1 (aI @decide_true (aI @decide_false (aI @oC (aI @oD (aI @oZ (aI @pE @yL))))))))); repeat' (with_reducible first | refine nY ?_ | (refine mX ?_; try simp only [go_sem, qH]) | refine kD ?_ | refine rD ?_ | refine aO ?_ | fail)
     refine ⟨b5r l, by omega, by omega, by omega, ?_⟩
     have q0 := @oC; have q1 := @oD; have q2 := @oZ; have q3 := @pE; have q4 := @yL; refine uY ?_
     refine ⟨b5r l, by omega, by omega, by omega, ?_⟩
     have q0 := @oC; have q1 := @oD; have q2 := @oZ; have q3 := @pE; have q4 := @yL; refine uY ?_
     refine nP (Sees.frz 0 rfl) ?_
     simp only [go_sem]
     exact aA ⟨⟨_, rfl, by simp only [go_sem, hput, iX, List.take_length, List.map_append, List.map_cons, List.append_assoc, List.cons_append, List.nil_append]⟩, trivial⟩
  ·have e : k = l.length := by omega
   have hfx : eP (geS s) l = k := by rw [hf, e, List.drop_length]; rfl
   have hput : kC l s = iX k s l := by unfold kC; rw [hfx, e, List.drop_length]; simp
   have h1' : ((k : Int) < (l.length : Int)) = False := by simp [h1]
   have q0 := @h1; have q1 := @h1'; have q2 := @decide_false; have q3 := @oC; have q4 := @oD; have q5 := @oZ; have q6 := @pE; have q7 := @yL; refine a0Q ?_
   refine ⟨b5r l, by omega, by omega, by omega, ?_⟩
   have q0 := @oC; have q1 := @oD; have q2 := @oZ; have q3 := @pE; have q4 := @yL; refine uY ?_
   refine ⟨b5r l, by omega, by omega, by omega, ?_⟩
   have q0 := @oC; have q1 := @oD; have q2 := @oZ; have q3 := @pE; have q4 := @yL; refine uY ?_
   refine nP (Sees.frz 0 rfl) ?_
   simp only [go_sem]
   exact aA ⟨⟨_, rfl, by simp only [go_sem, hput, iX, List.take_length, List.map_append, List.map_cons, List.append_assoc, List.cons_append, List.nil_append]⟩, trivial⟩
def b3Q (l : List TAttr) : List ByteArray := l.map TAttr.fName
def eqV (x v : TValue) : Bool := decide (x.fKind = v.fKind) && (decide (x.fInt = v.fInt) && decide (x.fStr = v.fStr))
def b0Q (a b : TFile) (n : ByteArray) : Bool := !(eqV (getAttr n a.fAttrs) (getAttr n b.fAttrs))
def chL (a b : TFile) (l : List ByteArray) : List ByteArray := l.filter (b0Q a b)
def chg (a b : TFile) : List ByteArray := chL a b (b3Q a.fAttrs ++ b3Q b.fAttrs)
@[go_sem] def vC (b : Bool) : List D := [bv b]
def b9B (n : TNode) : Bool := decide (n.fOp = 5)
def isTwo (n : TNode) : Bool := decide (n.fOp = 6) || decide (n.fOp = 7)
def jN (q : List TNode) (i : Nat) (L : List Bool) : List Bool := match q[i]? with
 | none => L
 | some n => if n.fOp = 5 then L.set n.fLeft.toNat true else if isTwo n then (L.set n.fLeft.toNat (L.getD i false)).set n.fRight.toNat (L.getD i false) else L
def negJ (q : List TNode) : Nat → List Bool
 | 0 => List.replicate q.length false
 | j + 1 => jN q (q.length - 1 - j) (negJ q j)
theorem a8k (q : List TNode) (i : Nat) (L : List Bool) : (jN q i L).length = L.length := by
 unfold jN
 split
 ·rfl
 ·split
  ·simp
  ·split <;> simp
theorem a0u (q : List TNode) (j : Nat) : (negJ q j).length = q.length := by
 induction j with
 | zero => simp [negJ]
 | succ j ih => simp only [negJ, a8k, ih]
def kX (q : List TNode) : List Bool := negJ q q.length
theorem a3G (q : List TNode) : (kX q).length = q.length := a0u q q.length
theorem a1i (q : List TNode) (i : Nat) (h : i < q.length) : negJ q (q.length - i) = jN q i (negJ q (q.length - (i + 1))) := by
 have e : q.length - i = (q.length - (i + 1)) + 1 := by omega
 have e2 : q.length - 1 - (q.length - (i + 1)) = i := by omega
 rw [e, negJ, e2]
def iO (n : TNode) : Bool := inB n.fOp 8 9
def sel (q : List TNode) (b : Bool) (k : Nat) : List ByteArray := match q[k]?, (kX q)[k]? with
 | some n, some x => if iO n && (x == b) then [n.fName] else []
 | _, _ => []
def mQ (q : List TNode) (b : Bool) (k : Nat) : List ByteArray := (List.range k).flatMap (sel q b)
def dH (q : List TNode) (b : Bool) : List ByteArray := mQ q b q.length
theorem yV (q : List TNode) (b : Bool) (k : Nat) : mQ q b (k + 1) = mQ q b k ++ sel q b k := by
 simp [mQ, List.range_succ, List.flatMap_append]
theorem b5q (q : List TNode) (b : Bool) (k : Nat) : (sel q b k).length ≤ 1 := by
 unfold sel
 split
 ·split <;> simp
 ·simp
theorem jO (q : List TNode) (b : Bool) (k : Nat) : (mQ q b k).length ≤ k := by
 induction k with
 | zero => simp [mQ]
 | succ k ih => rw [yV, List.length_append]; have := b5q q b k; omega
theorem b9f (L : List Bool) (i : Nat) (h : i < L.length) : L.getD i false = L[i] := by simp [List.getD_eq_getElem?_getD, h]
theorem b0N (L : List Bool) (l : Nat) : (L.map vC).set l [D.v (Value.bool false)] = (L.set l false).map vC := by rw [List.map_set]; rfl
theorem b0O (L : List Bool) (l : Nat) : (L.map vC).set l [D.v (Value.bool true)] = (L.set l true).map vC := by rw [List.map_set]; rfl
theorem a9D {L : List Bool} {i : Nat} {b : Bool} (h : i < L.length) (hb : L[i] = b) (l : Nat) (h' : i < (L.set l b).length) : (L.set l b)[i] = b := by
 rw [List.getElem_set]; split
 ·rfl
 ·exact hb
theorem b0P {L : List Bool} {i : Nat} {b : Bool} (h : i < L.length) (hb : L[i] = b) (l r : Nat) (h' : i < ((L.set l b).set r b).length) : ((L.set l b).set r b)[i] = b := by
 rw [List.getElem_set]; split
 ·rfl
 ·exact a9D h hb l _
theorem a0v {q : List TNode} {i : Nat} (h : i < q.length) (L : List Bool) {l : Nat} (h5 : q[i].fOp = 5) (hl : q[i].fLeft = (l : Int)) : jN q i L = L.set l true := by
 simp [jN, List.getElem?_eq_getElem h, h5, hl]
theorem xD {q : List TNode} {i : Nat} (h : i < q.length) (L : List Bool) (hi : i < L.length) {l m : Nat} (h5 : ¬ q[i].fOp = 5) (h67 : q[i].fOp = 6 ∨ q[i].fOp = 7) (hl : q[i].fLeft = (l : Int)) (hm : q[i].fRight = (m : Int)) : jN q i L = (L.set l L[i]).set m L[i] := by
 have h2 : isTwo q[i] = true := by unfold isTwo; rcases h67 with h | h <;> simp [h]
 simp only [jN, List.getElem?_eq_getElem h, h5, if_false, h2, if_true, hl, hm, Int.toNat_natCast, b9f L i hi]
theorem a1j {q : List TNode} {i : Nat} (h : i < q.length) (L : List Bool) (h5 : ¬ q[i].fOp = 5) (h67 : ¬ (q[i].fOp = 6 ∨ q[i].fOp = 7)) : jN q i L = L := by
 have h2 : isTwo q[i] = false := by
  unfold isTwo
  have h6 : ¬ q[i].fOp = 6 := fun h => h67 (.inl h)
  have h7 : ¬ q[i].fOp = 7 := fun h => h67 (.inr h)
  simp [h6, h7]
 simp only [jN, List.getElem?_eq_getElem h, h5, if_false, h2, Bool.false_eq_true]
theorem a9E (q : List TNode) (hq : okQ q = true) (hw : eU q ≤ 4300000) : FnC Tryz.prog 174 [.o (.d (.sl (q.map bN)))] (.o (.w 4 1 ((kX q).map vC))) := by
 have hl9 := mH hq
 refine ent Tryz.func174 rfl Tryz.call174 rfl (fun C => ?_); simp only [go_sem, st0, Tryz.ntmps174]
 have q0 := @hq; refine lF (cK q hw) ?_
 refine aY (α := Nat) (fun m => [(4, oi ((m : Int) - 1))]) (fun m => [(0, .row 4 1 ((negJ q (q.length - m)).map vC) true)]) (fun m => m ≤ q.length) (fun m => m) q.length (fun _ => ?_) ?_ ?_ (fun m hm => ?_)
 ·simp only [go_sem]
 ·simp only [go_sem]; simp [negJ, vC]
 ·simp
 ·simp only [go_sem]
  refine aD ?_
  refine cnd rfl (fun h => ?_) (fun h => ?_)
  ·simp only [decide_eq_true_eq] at h
   obtain ⟨i, rfl⟩ : ∃ i, m = i + 1 := ⟨m - 1, by omega⟩
   have hx : ((i + 1 : Nat) : Int) - 1 = (i : Int) := by omega
   have hi : i < q.length := by omega
   have hst := a1i q i hi
   have hLl := a0u q (q.length - (i + 1))
   generalize negJ q (q.length - (i + 1)) = L at *
   have hiL : i < L.length := by omega
   have hok := yP hq (List.getElem?_eq_getElem hi)
   have hop := rZ hok
   by_cases h5 : q[i].fOp = 5
   ·obtain ⟨l, hl, hli⟩ := dU hok (.inl h5)
    have hlL : l < L.length := by omega
    rw [a0v hi L h5 hl] at hst
    cases hb : L[i]
    all_goals
     have q0 := @hx; have q1 := @hi; have q2 := @hiL; have q3 := @hb; have q4 := @h5; have q5 := @hl; have q6 := @hlL; have q7 := @decide_true; have q8 := @decide_false; have q9 := @Int.toNat_natCast; refine rW ?_
     refine aF i ?_ ?_ ?_
     ·simp only [go_sem, hst]; simp [vC]
     ·omega
     ·omega
   by_cases h67 : q[i].fOp = 6 ∨ q[i].fOp = 7
   ·obtain ⟨l, hl, hli⟩ := dU hok (.inr h67)
    obtain ⟨r, hr, hri⟩ := fU hok h67
    have hlL : l < L.length := by omega
    have hrL : r < L.length := by omega
    rw [xD hi L hiL h5 h67 hl hr] at hst
    by_cases h6 : q[i].fOp = 6
    ·cases hb : L[i]
     all_goals
      rw [hb] at hst
      have hrL1 : r < (L.set l false).length := by simpa using hrL
      have hrL2 : r < (L.set l true).length := by simpa using hrL
      have qH := aI @hx (aI @hi (aI @hiL (aI @hb (aI @h5 (aI @h6 (aI @hl (aI @hr (aI @hlL (aI @hrL (aI @b0N (aI @b0O (aI @hrL1 (aI @hrL2 (aI @decide_true (aI @decide_false @Int.toNat_natCast))))))))))))))); repeat' (with_reducible first | refine nY ?_ | (refine mX ?_; try simp only [go_sem, qH]) | refine kD ?_ | refine rT [15, 17] [] ?_ | refine dB (aX ?_) (uX ?_) | refine dS (aX ?_) ?_ | exact uB | refine rD ?_ | refine aO ?_ | fail)
      refine aF i ?_ ?_ ?_
      ·simp only [go_sem, hst]; simp [vC]
      ·omega
      ·omega
    ·have h7 : q[i].fOp = 7 := by omega
     cases hb : L[i]
     all_goals
      rw [hb] at hst
      have hrL1 : r < (L.set l false).length := by simpa using hrL
      have hrL2 : r < (L.set l true).length := by simpa using hrL
      have qH := aI @hx (aI @hi (aI @hiL (aI @hb (aI @h5 (aI @h6 (aI @h7 (aI @hl (aI @hr (aI @hlL (aI @hrL (aI @b0N (aI @b0O (aI @hrL1 (aI @hrL2 (aI @decide_true (aI @decide_false @Int.toNat_natCast)))))))))))))))); repeat' (with_reducible first | refine nY ?_ | (refine mX ?_; try simp only [go_sem, qH]) | refine kD ?_ | refine rT [15, 17] [] ?_ | refine dB (aX ?_) (uX ?_) | refine dS (aX ?_) ?_ | exact uB | refine rD ?_ | refine aO ?_ | fail)
      refine aF i ?_ ?_ ?_
      ·simp only [go_sem, hst]; simp [vC]
      ·omega
      ·omega
   ·have h6 : ¬ q[i].fOp = 6 := fun h => h67 (.inl h)
    have h7 : ¬ q[i].fOp = 7 := fun h => h67 (.inr h)
    rw [a1j hi L h5 h67] at hst
    cases hb : L[i]
    all_goals
     have q0 := @hx; have q1 := @hi; have q2 := @hiL; have q3 := @hb; have q4 := @h5; have q5 := @h6; have q6 := @h7; have q7 := @decide_true; have q8 := @decide_false; have q9 := @Int.toNat_natCast; refine rW ?_
     refine aF i ?_ ?_ ?_
     ·simp only [go_sem, hst]; simp [vC]
     ·omega
     ·omega
  ·simp only [decide_eq_false_iff_not] at h
   have e : m = 0 := by omega
   subst e
   refine aD ?_
   exact aA ⟨⟨_, rfl, by simp only [go_sem, kX, Nat.sub_zero]⟩, trivial⟩
theorem a9F (q : List TNode) (hq : okQ q = true) (hw : eU q ≤ 4300000) : FnC Tryz.prog 189 [.o (.d (.sl (q.map bN)))] (.o (.w 4 1 ((kX q).map vC))) := by
 have hl9 := mH hq
 refine ent Tryz.func189 rfl Tryz.call189 rfl (fun C => ?_); simp only [go_sem, st0, Tryz.ntmps189]
 have q0 := @hq; refine lF (dI q hw) ?_
 refine aY (α := Nat) (fun m => [(4, oi ((m : Int) - 1))]) (fun m => [(0, .row 4 1 ((negJ q (q.length - m)).map vC) true)]) (fun m => m ≤ q.length) (fun m => m) q.length (fun _ => ?_) ?_ ?_ (fun m hm => ?_)
 ·simp only [go_sem]
 ·simp only [go_sem]; simp [negJ, vC]
 ·simp
 ·simp only [go_sem]
  refine aD ?_
  refine cnd rfl (fun h => ?_) (fun h => ?_)
  ·simp only [decide_eq_true_eq] at h
   obtain ⟨i, rfl⟩ : ∃ i, m = i + 1 := ⟨m - 1, by omega⟩
   have hx : ((i + 1 : Nat) : Int) - 1 = (i : Int) := by omega
   have hi : i < q.length := by omega
   have hst := a1i q i hi
   have hLl := a0u q (q.length - (i + 1))
   generalize negJ q (q.length - (i + 1)) = L at *
   have hiL : i < L.length := by omega
   have hok := yP hq (List.getElem?_eq_getElem hi)
   have hop := rZ hok
   by_cases h5 : q[i].fOp = 5
   ·obtain ⟨l, hl, hli⟩ := dU hok (.inl h5)
    have hlL : l < L.length := by omega
    rw [a0v hi L h5 hl] at hst
    cases hb : L[i]
    all_goals
     have q0 := @hx; have q1 := @hi; have q2 := @hiL; have q3 := @hb; have q4 := @h5; have q5 := @hl; have q6 := @hlL; have q7 := @decide_true; have q8 := @decide_false; have q9 := @Int.toNat_natCast; refine rW ?_
     refine aF i ?_ ?_ ?_
     ·simp only [go_sem, hst]; simp [vC]
     ·omega
     ·omega
   by_cases h67 : q[i].fOp = 6 ∨ q[i].fOp = 7
   ·obtain ⟨l, hl, hli⟩ := dU hok (.inr h67)
    obtain ⟨r, hr, hri⟩ := fU hok h67
    have hlL : l < L.length := by omega
    have hrL : r < L.length := by omega
    rw [xD hi L hiL h5 h67 hl hr] at hst
    by_cases h6 : q[i].fOp = 6
    ·cases hb : L[i]
     all_goals
      rw [hb] at hst
      have hs1 := a9D hiL hb l
      have hs2 := b0P hiL hb l r
      have hrL1 : r < (L.set l false).length := by simpa using hrL
      have hrL2 : r < (L.set l true).length := by simpa using hrL
      have qH := aI @hx (aI @hi (aI @hiL (aI @hb (aI @h5 (aI @h6 (aI @hl (aI @hr (aI @hlL (aI @hrL (aI @b0N (aI @b0O (aI @hrL1 (aI @hrL2 (aI @hs1 (aI @hs2 (aI @decide_true (aI @decide_false @Int.toNat_natCast))))))))))))))))); repeat' (with_reducible first | refine nY ?_ | (refine mX ?_; try simp only [go_sem, qH]) | refine kD ?_ | refine rT [8] [] ?_ | refine dB (aX ?_) (uX ?_) | refine dS (aX ?_) ?_ | exact uB | refine rD ?_ | refine aO ?_ | fail)
      refine aF i ?_ ?_ ?_
      ·simp only [go_sem, hst]; simp [vC]
      ·omega
      ·omega
    ·have h7 : q[i].fOp = 7 := by omega
     cases hb : L[i]
     all_goals
      rw [hb] at hst
      have hs1 := a9D hiL hb l
      have hs2 := b0P hiL hb l r
      have hrL1 : r < (L.set l false).length := by simpa using hrL
      have hrL2 : r < (L.set l true).length := by simpa using hrL
      have qH := aI @hx (aI @hi (aI @hiL (aI @hb (aI @h5 (aI @h6 (aI @h7 (aI @hl (aI @hr (aI @hlL (aI @hrL (aI @b0N (aI @b0O (aI @hrL1 (aI @hrL2 (aI @hs1 (aI @hs2 (aI @decide_true (aI @decide_false @Int.toNat_natCast)))))))))))))))))); repeat' (with_reducible first | refine nY ?_ | (refine mX ?_; try simp only [go_sem, qH]) | refine kD ?_ | refine rT [8] [] ?_ | refine dB (aX ?_) (uX ?_) | refine dS (aX ?_) ?_ | exact uB | refine rD ?_ | refine aO ?_ | fail)
      refine aF i ?_ ?_ ?_
      ·simp only [go_sem, hst]; simp [vC]
      ·omega
      ·omega
   ·have h6 : ¬ q[i].fOp = 6 := fun h => h67 (.inl h)
    have h7 : ¬ q[i].fOp = 7 := fun h => h67 (.inr h)
    rw [a1j hi L h5 h67] at hst
    cases hb : L[i]
    all_goals
     have q0 := @hx; have q1 := @hi; have q2 := @hiL; have q3 := @hb; have q4 := @h5; have q5 := @h6; have q6 := @h7; have q7 := @decide_true; have q8 := @decide_false; have q9 := @Int.toNat_natCast; refine rW ?_
     refine aF i ?_ ?_ ?_
     ·simp only [go_sem, hst]; simp [vC]
     ·omega
     ·omega
  ·simp only [decide_eq_false_iff_not] at h
   have e : m = 0 := by omega
   subst e
   refine aD ?_
   exact aA ⟨⟨_, rfl, by simp only [go_sem, kX, Nat.sub_zero]⟩, trivial⟩
theorem b3P (q : List TNode) (b : Bool) (k : Nat) (h : k < q.length) (h2 : k < (kX q).length) : sel q b k = if iO q[k] && ((kX q)[k] == b) then [q[k].fName] else [] := by
 unfold sel; rw [List.getElem?_eq_getElem h, List.getElem?_eq_getElem h2]
theorem a8h (n : TNode) : FnC Tryz.prog 175 [b0k n] (ob (iO n)) := by
 refine ent Tryz.func175 rfl Tryz.call175 rfl (fun C => ?_); simp only [go_sem, st0, Tryz.ntmps175]
 by_cases c8 : n.fOp = 8
 ·have hd : iO n = true := by simp [iO, inB, c8]
  have q0 := @c8; have q1 := @decide_true; refine gG ?_
  exact aA ⟨⟨_, rfl, by simp only [go_sem, hd]⟩, trivial⟩
 by_cases c9 : n.fOp = 9
 ·have hd : iO n = true := by simp [iO, inB, c9]
  have q0 := @c8; have q1 := @c9; have q2 := @decide_true; have q3 := @decide_false; refine jW ?_
  exact aA ⟨⟨_, rfl, by simp only [go_sem, hd]⟩, trivial⟩
 ·have hd : iO n = false := by
   rw [← Bool.not_eq_true]
   simp only [iO, inB, Bool.and_eq_true, decide_eq_true_eq]; omega
  have q0 := @c8; have q1 := @c9; have q2 := @decide_true; have q3 := @decide_false; refine jW ?_
  exact aA ⟨⟨_, rfl, by simp only [go_sem, hd]⟩, trivial⟩
theorem a1K (q : List TNode) (b : Bool) (hq : okQ q = true) (hw : eU q ≤ 4300000) : FnC Tryz.prog 158 [.o (.d (.sl (q.map bN))), ob b] (.o (.w 9 1 ((gD (dH q b)).map iV))) := by
 have hl9 := mH hq
 have hnl := a3G q
 refine ent Tryz.func158 rfl Tryz.call158 rfl (fun C => ?_); simp only [go_sem, st0, Tryz.ntmps158]
 refine iE (a9E q hq hw) ?_
 refine aY (α := Nat) (fun k => [(5, .o (.s 0)), (8, .o .u), (12, oi k)]) (fun k => [(0, .row 9 1 ((mQ q b k).map iV) true)]) (fun k => k ≤ q.length) (fun k => q.length - k) 0 (fun _ => ?_) ?_ ?_ (fun k hk => ?_)
 ·simp only [go_sem]
 ·simp only [go_sem]; simp [mQ]
 ·simp
 ·simp only [go_sem]
  refine aD ?_
  refine cnd rfl (fun h1 => ?_) (fun h1 => ?_)
  ·simp only [decide_eq_true_eq, Int.ofNat_lt] at h1
   have h2 : k < (kX q).length := h1
   have h1 : k < q.length := by omega
   have hdl := jO q b k
   have hs := b3P q b k h1 h2
   have ht := yV q b k
   rw [hs] at ht
   have hl1 : (mQ q b k).length + 1 ≤ 140737488355328 := by omega
   have hl2 : ((mQ q b k).length + 1) * 16 ≤ 140737488355328 := by omega
   cases hd : iO q[k]
   ·simp only [hd, Bool.false_and, Bool.false_eq_true, if_false, List.append_nil] at ht
    have q0 := @h1; have q1 := @h2; have q2 := @hd; refine rV (a8h q[k]) ?_
    refine aF (k + 1) ?_ ?_ ?_
    ·simp only [go_sem, ht]; simp
    ·omega
    ·omega
   ·cases hx : (kX q)[k] <;> cases b
    all_goals
     simp only [hd, hx, Bool.true_and, Bool.true_beq, Bool.false_beq, Bool.not_true, Bool.not_false, Bool.false_eq_true, if_false, if_true, List.append_nil] at ht
     have q0 := @h1; have q1 := @h2; have q2 := @hd; have q3 := @hx; have q4 := @Bool.true_beq; have q5 := @Bool.false_beq; refine zX (a8h q[k]) ?_
     refine aF (k + 1) ?_ ?_ ?_
     ·simp only [go_sem, ht, List.map_append]; simp
     ·omega
     ·omega
  ·simp only [decide_eq_false_iff_not] at h1
   have e : k = q.length := by omega
   subst e
   have hdl := jO q b q.length
   refine iE (a4e (mQ q b q.length) (by omega)) ?_
   exact aA ⟨⟨_, rfl, by simp only [go_sem, dH]⟩, trivial⟩
theorem a1L (q : List TNode) (b : Bool) (hq : okQ q = true) (hw : eU q ≤ 4300000) : FnC Tryz.prog 181 [.o (.d (.sl (q.map bN))), ob b] (.o (.w 9 1 ((putL (dH q b)).map iV))) := by
 have hl9 := mH hq
 have hnl := a3G q
 refine ent Tryz.func181 rfl Tryz.call181 rfl (fun C => ?_); simp only [go_sem, st0, Tryz.ntmps181]
 refine iE (a9F q hq hw) ?_
 refine b0H 5 0 rfl rfl ?_
 simp only [go_sem]
 refine aY (α := Nat) (fun k => [(5, .o (.d (.sl ((putL (mQ q b k)).map iV)))), (7, oi k), (8, .o .u)]) (fun _ => []) (fun k => k ≤ q.length) (fun k => q.length - k) 0 (fun _ => ?_) ?_ ?_ (fun k hk => ?_)
 ·simp only [go_sem]
 ·simp only [go_sem]; simp [mQ, putL]
 ·simp
 ·simp only [go_sem]
  have hdl := jO q b k
  have hlen : (putL (mQ q b k)).length ≤ 4300000 := by have h1 := wI (mQ q b k); omega
  refine aD ?_
  refine cnd rfl (fun h1 => ?_) (fun h1 => ?_)
  ·simp only [decide_eq_true_eq, Int.ofNat_lt] at h1
   have h2 : k < (kX q).length := h1
   have h1 : k < q.length := by omega
   have hs := b3P q b k h1 h2
   have ht := yV q b k
   rw [hs] at ht
   cases hd : iO q[k]
   ·simp only [hd, Bool.false_and, Bool.false_eq_true, if_false, List.append_nil] at ht
    have q0 := @h1; have q1 := @h2; have q2 := @hd; refine rV (show FnC Tryz.prog _ _ (ob (iO q[k])) from bO q[k].fOp 8 9) ?_
    refine aF (k + 1) ?_ ?_ ?_
    ·simp only [go_sem, ht]; simp
    ·omega
    ·omega
   ·cases hx : (kX q)[k] <;> cases b
    all_goals
     simp only [hd, hx, Bool.true_and, Bool.true_beq, Bool.false_beq, Bool.not_true, Bool.not_false, Bool.false_eq_true, if_false, if_true, List.append_nil] at ht
     have q0 := @h1; have q1 := @h2; have q2 := @hd; have q3 := @hx; have q4 := @Bool.true_beq; have q5 := @Bool.false_beq; refine a3V (show FnC Tryz.prog _ _ (ob (iO q[k])) from bO q[k].fOp 8 9) (b2c (putL (mQ q _ k)) q[k].fName hlen) ?_
     refine aF (k + 1) ?_ ?_ ?_
     ·simp only [go_sem, ht, b3G]; simp
     ·omega
     ·omega
  ·simp only [decide_eq_false_iff_not] at h1
   have e : k = q.length := by omega
   subst e
   refine aD ?_
   exact aA ⟨⟨_, rfl, by simp only [go_sem, dH]⟩, trivial⟩
theorem a9B (q : List TNode) (hq : okQ q = true) (hw : eU q ≤ 4300000) : FnC Tryz.prog 143 [.o (.d (.sl (q.map bN)))] (.o (.w 9 1 ((gD (dH q false)).map iV))) := by
 refine ent Tryz.func143 rfl Tryz.call143 rfl (fun C => ?_); simp only [go_sem, st0, Tryz.ntmps143]
 refine iE (a1K q false hq hw) ?_
 exact aA ⟨⟨_, rfl, by simp only [go_sem]⟩, trivial⟩
theorem a8i (q : List TNode) (hq : okQ q = true) (hw : eU q ≤ 4300000) : FnC Tryz.prog 144 [.o (.d (.sl (q.map bN)))] (.o (.w 9 1 ((gD (dH q true)).map iV))) := by
 refine ent Tryz.func144 rfl Tryz.call144 rfl (fun C => ?_); simp only [go_sem, st0, Tryz.ntmps144]
 refine iE (a1K q true hq hw) ?_
 exact aA ⟨⟨_, rfl, by simp only [go_sem]⟩, trivial⟩
theorem a9C (q : List TNode) (hq : okQ q = true) (hw : eU q ≤ 4300000) : FnC Tryz.prog 161 [.o (.d (.sl (q.map bN)))] (.o (.w 9 1 ((putL (dH q false)).map iV))) := by
 refine ent Tryz.func161 rfl Tryz.call161 rfl (fun C => ?_); simp only [go_sem, st0, Tryz.ntmps161]
 refine iE (a1L q false hq hw) ?_
 exact aA ⟨⟨_, rfl, by simp only [go_sem]⟩, trivial⟩
theorem a8j (q : List TNode) (hq : okQ q = true) (hw : eU q ≤ 4300000) : FnC Tryz.prog 163 [.o (.d (.sl (q.map bN)))] (.o (.w 9 1 ((putL (dH q true)).map iV))) := by
 refine ent Tryz.func163 rfl Tryz.call163 rfl (fun C => ?_); simp only [go_sem, st0, Tryz.ntmps163]
 refine iE (a1L q true hq hw) ?_
 exact aA ⟨⟨_, rfl, by simp only [go_sem]⟩, trivial⟩
end Go.Proofs.YtakopfjdmmnjcaaGreatDoor
end
section
set_option maxRecDepth 100000
set_option maxHeartbeats 4000000
namespace Go.Proofs.YtakopfjdmmnjcaaGreatDoor
def lv (L : List Nat) (i : Nat) : Nat := L.getD i 0
structure Clo (n : Nat) (E : Nat → Nat → Nat → Prop) (F : List Nat) : Prop where
 len : F.length = n
 le : ∀ i k w, E i k w → lv F k + w ≤ lv F i
structure Edges (n : Nat) (E : Nat → Nat → Nat → Prop) : Prop where
 ok : ∀ i k w, E i k w → i < n ∧ k < n ∧ w ≤ 1
structure Least (n : Nat) (E : Nat → Nat → Nat → Prop) (L : List Nat) : Prop where
 clo : Clo n E L
 le : ∀ F, Clo n E F → ∀ i, lv L i ≤ lv F i
theorem b7g {L M : List Nat} (h : L.length = M.length) (hi : ∀ i, lv L i = lv M i) : L = M := by
 apply List.ext_getElem h
 intro i h1 h2
 have := hi i
 simpa [lv, List.getD_eq_getElem?_getD, h1, h2] using this
theorem a6r {n : Nat} {E : Nat → Nat → Nat → Prop} {L M : List Nat} (h : Least n E L) (k : Least n E M) : L = M :=
 b7g (by rw [h.clo.len, k.clo.len]) fun i => Nat.le_antisymm (h.le M k.clo i) (k.le L h.clo i)
open Classical in
noncomputable def a9G (n : Nat) (E : Nat → Nat → Nat → Prop) : List Nat := if h : ∃ L, Least n E L then h.choose else []
theorem a6s {n : Nat} {E : Nat → Nat → Nat → Prop} {L : List Nat} (h : Least n E L) : a9G n E = L := by
 have he : ∃ L, Least n E L := ⟨L, h⟩
 unfold a9G
 rw [dif_pos he]
 exact a6r he.choose_spec h
theorem a6t {n : Nat} {E : Nat → Nat → Nat → Prop} (h : ¬ ∃ F, Clo n E F) : a9G n E = [] := by
 unfold a9G
 rw [dif_neg (fun ⟨L, hL⟩ => h ⟨L, hL.clo⟩)]
open Classical in
noncomputable def a1M (n : Nat) (E : Nat → Nat → Nat → Prop) : Bool := if ∃ F, Clo n E F then true else false
theorem xE {n : Nat} {E : Nat → Nat → Nat → Prop} {L : List Nat} (h : Clo n E L) : a1M n E = true := by
 unfold a1M; rw [if_pos ⟨L, h⟩]
theorem a8l {n : Nat} {E : Nat → Nat → Nat → Prop} (h : ¬ ∃ F, Clo n E F) : a1M n E = false := by
 unfold a1M; rw [if_neg h]
theorem a1k {n : Nat} {E : Nat → Nat → Nat → Prop} (hE : Edges n E) {F : List Nat} (h : Clo n E F) : ∃ G, Clo n E G ∧ ∀ i, i < n → lv G i < n := by
 let r (i : Nat) : Nat := ((List.range n).filter fun j => decide (lv F j < lv F i)).length
 have hr : ∀ i, i < n → lv ((List.range n).map r) i = r i := fun i hi => by simp [lv, List.getD_eq_getElem?_getD, hi]
 have sub : ∀ (p q : Nat → Bool) (l : List Nat), (∀ j, p j = true → q j = true) → (l.filter p).length ≤ (l.filter q).length := by
  intro p q l hpq
  induction l with
  | nil => simp
  | cons x l ih =>
   simp only [List.filter_cons]
   cases hp : p x
   ·cases hq : q x <;> simp <;> omega
   ·rw [hpq x hp]; simpa using ih
 have sub1 : ∀ (p q : Nat → Bool) (l : List Nat) (x : Nat), x ∈ l → (∀ j, p j = true → q j = true) → p x = false → q x = true → (l.filter p).length < (l.filter q).length := by
  intro p q l x hx hpq hp hq
  induction l with
  | nil => simp at hx
  | cons y l ih =>
   simp only [List.filter_cons]
   rcases List.mem_cons.1 hx with rfl | hx
   ·rw [hp, hq]
    have := sub p q l hpq
    simp
    omega
   ·have := ih hx
    cases hp' : p y
    ·cases hq' : q y <;> simp <;> omega
    ·rw [hpq y hp']; simpa using this
 refine ⟨(List.range n).map r, ⟨by simp, fun i k w he => ?_⟩, fun i hi => ?_⟩
 ·obtain ⟨hi, hk, hw⟩ := hE.ok i k w he
  rw [hr i hi, hr k hk]
  have hle := h.le i k w he
  rcases Nat.lt_or_ge w 1 with hw0 | hw1
  ·have hw' : w = 0 := by omega
   subst hw'
   exact sub _ _ _ fun j hj => by simp only [decide_eq_true_eq] at hj ⊢; omega
  ·have hw' : w = 1 := by omega
   subst hw'
   exact sub1 _ _ _ k (List.mem_range.2 hk) (fun j hj => by simp only [decide_eq_true_eq] at hj ⊢; omega) (by simp) (by simp only [decide_eq_true_eq]; omega)
 ·rw [hr i hi]
  have := sub1 (fun j => decide (lv F j < lv F i)) (fun _ => true) (List.range n) i (List.mem_range.2 hi) (fun _ _ => rfl) (by simp) rfl
  rw [List.filter_eq_self.2 (fun _ _ => rfl), List.length_range] at this
  exact this
theorem a3H (L : List Nat) (i v j : Nat) (h : i < L.length) : lv (L.set i v) j = if j = i then v else lv L j := by
 unfold lv
 simp only [List.getD_eq_getElem?_getD, List.getElem?_set]
 by_cases e : i = j
 ·subst e; simp [h]
 ·rw [if_neg e, if_neg (fun e' => e e'.symm)]
def uK : List Nat → Nat
 | [] => 0
 | x :: l => x + uK l
theorem a8m (L : List Nat) (i v : Nat) (h : i < L.length) : uK (L.set i v) + lv L i = uK L + v := by
 induction L generalizing i with
 | nil => simp at h
 | cons x l ih =>
  cases i with
  | zero => simp [uK, lv]; omega
  | succ i =>
   have := ih i (by simpa using h)
   simp only [List.set_cons_succ, uK, lv, List.getD_cons_succ] at this ⊢
   omega
theorem b0R (L : List Nat) (c : Nat) (h : ∀ i, i < L.length → lv L i ≤ c) : uK L ≤ L.length * c := by
 induction L with
 | nil => simp [uK]
 | cons x l ih =>
  have h0 : x ≤ c := by simpa [lv] using h 0 (by simp)
  have h1 := ih fun i hi => by simpa [lv] using h (i + 1) (by simpa using hi)
  simp only [uK, List.length_cons, Nat.succ_mul]
  omega
theorem a6u (n i : Nat) : lv (List.replicate n 0) i = 0 := by
 simp only [lv, List.getD_eq_getElem?_getD, List.getElem?_replicate]
 split <;> rfl
def up1 (i k w : Nat) (L : List Nat) : List Nat := if lv L k + w > lv L i then L.set i (lv L k + w) else L
theorem a2y (i k w : Nat) (L : List Nat) : (up1 i k w L).length = L.length := by unfold up1; split <;> simp
theorem up1_grow (i k w : Nat) (L : List Nat) (h : i < L.length) : up1 i k w L = L ∨ uK L < uK (up1 i k w L) := by
 unfold up1
 split
 ·rename_i hc
  have := a8m L i (lv L k + w) h
  right; omega
 ·exact .inl rfl
theorem b3R {i k w : Nat} {L : List Nat} (hl : i < L.length) (h : up1 i k w L = L) : lv L k + w ≤ lv L i := by
 apply Classical.byContradiction
 intro hn
 have hc : lv L k + w > lv L i := by omega
 unfold up1 at h
 rw [if_pos hc] at h
 have := a3H L i (lv L k + w) i hl
 rw [h, if_pos rfl] at this
 omega
theorem b2d {n : Nat} {E : Nat → Nat → Nat → Prop} {F : List Nat} (hF : Clo n E F) {i k w : Nat} (he : E i k w) {L : List Nat} (hl : i < L.length) (h : ∀ j, lv L j ≤ lv F j) : ∀ j, lv (up1 i k w L) j ≤ lv F j := by
 intro j
 unfold up1
 split
 ·rw [a3H L i _ j hl]
  split
  ·rename_i e; subst e
   have := hF.le j k w he
   have := h k
   omega
  ·exact h j
 ·exact h j
theorem b2e {i k w : Nat} {L : List Nat} {B : Nat} (hl : i < L.length) (hw : w ≤ 1) (h : ∀ j, lv L j ≤ B) : ∀ j, lv (up1 i k w L) j ≤ B + 1 := by
 intro j
 unfold up1
 split
 ·rw [a3H L i _ j hl]
  split
  ·have := h k; omega
  ·have := h j; omega
 ·have := h j; omega
def ups : List (Nat × Nat × Nat) → List Nat → List Nat
 | [], L => L
 | (i, k, w) :: l, L => ups l (up1 i k w L)
theorem a2z (l m : List (Nat × Nat × Nat)) (L : List Nat) : ups (l ++ m) L = ups m (ups l L) := by
 induction l generalizing L with
 | nil => rfl
 | cons x l ih => obtain ⟨i, k, w⟩ := x; simp only [List.cons_append, ups, ih]
theorem xF (l : List (Nat × Nat × Nat)) (L : List Nat) : (ups l L).length = L.length := by
 induction l generalizing L with
 | nil => rfl
 | cons x l ih => obtain ⟨i, k, w⟩ := x; simp only [ups, ih, a2y]
theorem ups_grow : ∀ (l : List (Nat × Nat × Nat)) (L : List Nat), (∀ x ∈ l, x.1 < L.length) → (ups l L = L ∧ ∀ x ∈ l, up1 x.1 x.2.1 x.2.2 L = L) ∨ uK L < uK (ups l L)
 | [], L, _ => .inl ⟨rfl, fun x h => by simp at h⟩
 | (i, k, w) :: l, L, h => by
  have hi := h (i, k, w) (by simp)
  have hl := ups_grow l (up1 i k w L) fun x hx => by rw [a2y]; exact h x (by simp [hx])
  simp only [ups]
  rcases up1_grow i k w L hi with e | g
  ·rw [e] at hl ⊢
   rcases hl with ⟨h1, h2⟩ | h1
   ·refine .inl ⟨h1, fun x hx => ?_⟩
    rcases List.mem_cons.1 hx with rfl | hx
    ·exact e
    ·exact h2 x hx
   ·exact .inr h1
  ·rcases hl with ⟨h1, _⟩ | h1
   ·rw [h1]; exact .inr g
   ·exact .inr (by omega)
theorem a5k {n : Nat} {E : Nat → Nat → Nat → Prop} {F : List Nat} (hE : Edges n E) (hF : Clo n E F) : ∀ (l : List (Nat × Nat × Nat)) (L : List Nat), L.length = n → (∀ x ∈ l, E x.1 x.2.1 x.2.2) → (∀ j, lv L j ≤ lv F j) → ∀ j, lv (ups l L) j ≤ lv F j
 | [], L, _, _, h => h
 | (i, k, w) :: l, L, hl, he, h => by
  have e := he (i, k, w) (by simp)
  exact a5k hE hF l _ (by rw [a2y]; exact hl) (fun x hx => he x (by simp [hx])) (b2d hF e (by rw [hl]; exact (hE.ok _ _ _ e).1) h)
theorem oI : ∀ (l : List (Nat × Nat × Nat)) (L : List Nat) (B : Nat), (∀ x ∈ l, x.1 < L.length ∧ x.2.2 ≤ 1) → (∀ j, lv L j ≤ B) → ∀ j, lv (ups l L) j ≤ B + l.length
 | [], L, B, _, h => h
 | (i, k, w) :: l, L, B, hx, h => by
  have e := hx (i, k, w) (by simp)
  have := oI l (up1 i k w L) (B + 1) (fun x hx' => by rw [a2y]; exact hx x (by simp [hx'])) (b2e e.1 e.2 h)
  intro j
  have := this j
  simp only [ups, List.length_cons]
  omega
def upsN (l : List (Nat × Nat × Nat)) : Nat → List Nat → List Nat
 | 0, L => L
 | r + 1, L => ups l (upsN l r L)
theorem a3I (l : List (Nat × Nat × Nat)) (r : Nat) (L : List Nat) : (upsN l r L).length = L.length := by
 induction r with
 | zero => rfl
 | succ r ih => simp only [upsN, xF, ih]
theorem a3J (l : List (Nat × Nat × Nat)) (L : List Nat) (hx : ∀ x ∈ l, x.1 < L.length ∧ x.2.2 ≤ 1) (h : ∀ j, lv L j = 0) : ∀ r j, lv (upsN l r L) j ≤ r * l.length
 | 0, j => by simp [upsN, h j]
 | r + 1, j => by
  have := oI l (upsN l r L) (r * l.length) (fun x hx' => by rw [a3I]; exact hx x hx') (a3J l L hx h r) j
  simp only [upsN, Nat.succ_mul]
  omega
theorem a5l {n : Nat} {E : Nat → Nat → Nat → Prop} (hE : Edges n E) (l : List (Nat × Nat × Nat)) (hl : ∀ x, x ∈ l ↔ E x.1 x.2.1 x.2.2) (R : Nat) (hR : n * n < R) :
    let L := upsN l R (List.replicate n 0)
    if ups l L = L then Least n E L else ¬ ∃ F, Clo n E F := by
 intro L
 have hlen : ∀ r, (upsN l r (List.replicate n 0)).length = n := fun r => by rw [a3I]; simp
 have hbel : ∀ F, Clo n E F → ∀ r j, lv (upsN l r (List.replicate n 0)) j ≤ lv F j := fun F hF r => by
  induction r with
  | zero => intro j; simp only [upsN, a6u]; omega
  | succ r ih => exact a5k hE hF l _ (hlen r) (fun x hx => (hl x).1 hx) ih
 have hix : ∀ r, ∀ x ∈ l, x.1 < (upsN l r (List.replicate n 0)).length := fun r x hx => by rw [hlen]; exact (hE.ok _ _ _ ((hl x).1 hx)).1
 have hgrow : ∀ r, ups l (upsN l r (List.replicate n 0)) = upsN l r (List.replicate n 0) ∨ r ≤ uK (upsN l r (List.replicate n 0)) := fun r => by
  induction r with
  | zero => exact .inr (by omega)
  | succ r ih =>
   rcases ih with e | h
   ·left; simp only [upsN]; rw [e, e]
   ·rcases ups_grow l _ (hix r) with ⟨e, _⟩ | g
    ·left; simp only [upsN]; rw [e, e]
    ·right; simp only [upsN]; omega
 by_cases hs : ups l L = L
 ·rw [if_pos hs]
  refine ⟨⟨hlen R, fun i k w he => ?_⟩, fun F hF => hbel F hF R⟩
  rcases ups_grow l L (hix R) with ⟨_, h⟩ | g
  ·exact b3R (by rw [hlen]; exact (hE.ok _ _ _ he).1) (h (i, k, w) ((hl (i, k, w)).2 he))
  ·rw [hs] at g; omega
 ·rw [if_neg hs]
  rintro ⟨F, hF⟩
  obtain ⟨G, hG, hsm⟩ := a1k hE hF
  rcases hgrow R with e | h
  ·exact hs e
  ·have h1 := b0R L n fun i hi => by
    have h2 := hbel G hG R i
    have h3 := hsm i (by rw [← hlen R]; exact hi)
    show lv (upsN l R (List.replicate n 0)) i ≤ n
    omega
   rw [hlen R] at h1
   show False
   have : uK L = uK (upsN l R (List.replicate n 0)) := rfl
   omega
end Go.Proofs.YtakopfjdmmnjcaaGreatDoor
end
