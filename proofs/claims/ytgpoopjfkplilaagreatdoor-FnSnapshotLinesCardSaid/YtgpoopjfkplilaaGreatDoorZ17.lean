/- Joined texts. -/
import Derived.Test.YtgpoopjfkplilaaGreatDoorZ16
import Derived.Test.YtgpoopjfkplilaaGreatDoorZ13
import Derived.Test.YtgpoopjfkplilaaGreatDoorZ12
set_option linter.all false
section
set_option maxRecDepth 100000
set_option maxHeartbeats 4000000
namespace Go.Sx
open Go Go.RowKit
theorem CallS.nilArg {E : Env} {f : Nat} {a0 : SV} {rest : List SV} {st : St} {K : St → SV → Prop} (ty sz : Nat) (h : CallS E f (a0 :: .o (.s st.h.length) :: rest) (st.push (.row ty sz [] true)) K) : CallS E f (a0 :: .o .z :: rest) st K :=
 ⟨h.1, fun g V a w vs hr hl ha => h.2 _ V a w vs (hr.nilRow ty sz) (by simpa using hl) fun i s y e1 e2 => by
  match i with
  | 0 => exact (ha 0 s y e1 e2).mono (GLe.push _ _) (View.le.refl V)
  | 1 =>
   simp only [List.getElem?_cons_succ, List.getElem?_cons_zero, Option.some.injEq] at e1
   subst e1
   have hz : y = .slice none 0 0 := ha 1 (.o .z) y rfl e2
   subst hz
   exact ⟨⟨none, .slice none 0 0, [], []⟩, by rw [← hr.hp.glen, List.getElem?_append_right (Nat.le_refl _)]; simp, rfl, rfl⟩
  | i + 2 => exact (ha (i + 2) s y (by simpa using e1) e2).mono (GLe.push _ _) (View.le.refl V)⟩
end Go.Sx
namespace Go.Proofs.YtgpoopjfkplilaaGreatDoor
open Go Go.Sx Go.RowKit Go.Proofs
theorem b7w {f ty : Nat} {fn : Func} {c : Code} {rs : List ResultVar} {ds : List D} {tyR sz : Nat} {rows : List (List D)} {args : List SV} {α : Type} {Q : α → Prop} {rows' : α → List (List D)} {ds' : α → List D} (hf : Tryz.prog.funcs[f]? = some fn) (hb : fn.body = some c) (hcall : ∀ x w, (callFunc f x).run Tryz.prog w = .ok (.enter f x) w) (hres : fn.results = rs.toArray)
    (h : ∀ (C : Ctx) (b : Nat), WP Tryz.prog C c (bN Tryz.prog C [] (b5X (EV C) rs b ty tyR sz Q rows' ds')) (stG b ty ds tyR sz rows args fn.ntmps)) : FnG Tryz.prog f ty ds tyR sz rows args Q rows' ds' := FnG.of_wp (eqk := eqk) zY hf hb hcall hres h
theorem a3T {C : Ctx} {f ty id id2 : Nat} {ds : List D} {tyR sz : Nat} {rows : List (List D)} {args' rest : List SV} {α : Type} {Q : α → Prop} {rows' : α → List (List D)} {ds' : α → List D} {st : St} {K : St → SV → Prop} (h : FnG Tryz.prog f ty ds tyR sz rows args' Q rows' ds')
    (hid : a5g ty ds (bK st.h id)) (hid2 : bK st.h id2 = .row tyR sz rows true) (hflat : iL rows = true) (he : rest.map (eY st.h) = args') (hfree : args'.all bX = true)
    (k : ∀ a, Q a → K ⟨st.t, setH (dR st.h [id2]) id (reD (ds' a) (bK st.h id)) ++ adH [.w tyR sz (rows' a)]⟩ (adS (setH (dR st.h [id2]) id (reD (ds' a) (bK st.h id))).length (.o (.w tyR sz (rows' a))))) : CallT (EV C) f (.o (.p id 0) :: .o (.s id2) :: rest) st K ⟨⟩ := ⟨CallS.giveB (E := EV C) h hid hid2 hflat he hfree k⟩
theorem b5U {C : Ctx} {f : Nat} {a0 : SV} {rest : List SV} {st : St} {K : St → SV → Prop} (ty sz : Nat) (h : CallT (EV C) f (a0 :: .o (.s st.h.length) :: rest) ⟨st.t, st.h ++ [.row ty sz [] true]⟩ K ⟨⟩) : CallT (EV C) f (a0 :: .o .z :: rest) st K ⟨⟩ := ⟨CallS.nilArg (E := EV C) ty sz h.out⟩
structure nodeD (n : TNode) : Prop where
 nm : n.fName.size ≤ 7
 vs : n.fValue.fStr.size ≤ 7
 wf : a7Q n
@[go_sem] def nmF : List ByteArray := [⟨#[97]⟩, ⟨#[98]⟩, ⟨#[110]⟩, ⟨#[116]⟩]
@[go_sem] def wdF : List ByteArray := [⟨#[114, 101, 100]⟩, ⟨#[98, 108, 117, 101]⟩]
@[go_sem] def nmL : List ByteArray := [⟨#[97]⟩, ⟨#[98]⟩]
theorem gM {op a b k x : Int} {nm s : ByteArray} (h1 : inR .i64 op) (h2 : inR .i64 a) (h3 : inR .i64 b) (h4 : nm.size ≤ 7) (h5 : inR .i64 k) (h6 : inR .i64 x) (h7 : s.size ≤ 7) : nodeD ⟨op, a, b, nm, ⟨k, x, s⟩⟩ :=
 ⟨h4, h7, h1, h2, h3, (show nm.size ≤ _ by omega), h5, h6, (show s.size ≤ _ by omega)⟩
theorem inS {x : Int} (h : -10 ≤ x ∧ x ≤ 1000) : inR .i64 x := by simp only [inR]; omega
theorem lI {l : List Int} (hl : iM l) : Drw l 183 [] (fun n : TNode => nodeD n) (fun n => a8Q n) := by
 intro i h hi hh; refine oD Tryz.func183 rfl Tryz.call183 rfl (fun C b => ?_); simp only [go_sem, Tryz.ntmps183]
 refine aD ?_
 first | (refine aU (aH hl 9 (by decide) (by decide) i h hi hh) ⟨rfl, rfl⟩ ?_ rfl ?_; (focus first | rfl | (simp only [go_sem]; done))) | (refine hZ (aH hl 9 (by decide) (by decide) i h hi hh) ⟨rfl, rfl⟩ ?_ rfl ?_; (focus first | rfl | (simp only [go_sem]; done)))
 clear hi hh; rintro ⟨k, i, h⟩ ⟨hk, hi, hh⟩; simp only at hk hi hh; simp only [go_sem]
 have z0 : (⟨#[]⟩ : ByteArray).size ≤ 7 := Nat.zero_le _
 have h9 : k = 0 ∨ k = 1 ∨ k = 2 ∨ k = 3 ∨ k = 4 ∨ k = 5 ∨ k = 6 ∨ k = 7 ∨ k = 8 := by omega
 rcases h9 with rfl | rfl | rfl | rfl | rfl | rfl | rfl | rfl | rfl
 ·refine aD ?_
  exact aJ (⟨1, 0, 0, ⟨#[]⟩, ⟨0, 0, ⟨#[]⟩⟩⟩, i, h) ⟨⟨_, rfl, by simp only [go_sem]⟩, trivial⟩ ⟨gM (inS (by decide)) in0 in0 z0 in0 in0 z0, ⟨hi, hh⟩⟩ (by simp only [go_sem])
 ·refine aD ?_
  first | (refine aU (cK hl nmF (by decide) (by decide) i h hi hh) ⟨rfl, rfl⟩ ?_ rfl ?_; (focus first | rfl | (simp only [go_sem]; done))) | (refine hZ (cK hl nmF (by decide) (by decide) i h hi hh) ⟨rfl, rfl⟩ ?_ rfl ?_; (focus first | rfl | (simp only [go_sem]; done)))
  clear hi hh; rintro ⟨s, i, h⟩ ⟨hs, hi, hh⟩; simp only at hs hi hh; simp only [go_sem]
  have hw := (by decide +kernel : ∀ s ∈ nmF, s.size ≤ 7) s hs
  refine aD ?_
  exact aJ (⟨2, 0, 0, s, ⟨0, 0, ⟨#[]⟩⟩⟩, i, h) ⟨⟨_, rfl, by simp only [go_sem]⟩, trivial⟩ ⟨gM (inS (by decide)) in0 in0 hw in0 in0 z0, ⟨hi, hh⟩⟩ (by simp only [go_sem])
 ·refine aD ?_
  first | (refine aU (aH hl 4 (by decide) (by decide) i h hi hh) ⟨rfl, rfl⟩ ?_ rfl ?_; (focus first | rfl | (simp only [go_sem]; done))) | (refine hZ (aH hl 4 (by decide) (by decide) i h hi hh) ⟨rfl, rfl⟩ ?_ rfl ?_; (focus first | rfl | (simp only [go_sem]; done)))
  clear hi hh; rintro ⟨x, i, h⟩ ⟨hx, hi, hh⟩; simp only at hx hi hh; simp only [go_sem]
  refine kS (nS x) ?_
  exact aJ (⟨3, 0, 0, ⟨#[97]⟩, ⟨1, x, ⟨#[]⟩⟩⟩, i, h) ⟨⟨_, rfl, by simp only [go_sem]⟩, trivial⟩ ⟨gM (inS (by decide)) in0 in0 (by decide) in1 (inS (by omega)) z0, ⟨hi, hh⟩⟩ (by simp only [go_sem])
 ·refine aD ?_
  first | (refine aU (cK hl wdF (by decide) (by decide) i h hi hh) ⟨rfl, rfl⟩ ?_ rfl ?_; (focus first | rfl | (simp only [go_sem]; done))) | (refine hZ (cK hl wdF (by decide) (by decide) i h hi hh) ⟨rfl, rfl⟩ ?_ rfl ?_; (focus first | rfl | (simp only [go_sem]; done)))
  clear hi hh; rintro ⟨s, i, h⟩ ⟨hs, hi, hh⟩; simp only at hs hi hh; simp only [go_sem]
  have hw := (by decide +kernel : ∀ s ∈ wdF, s.size ≤ 7) s hs
  refine kS (qE s) ?_
  exact aJ (⟨3, 0, 0, ⟨#[116]⟩, ⟨2, 0, s⟩⟩, i, h) ⟨⟨_, rfl, by simp only [go_sem]⟩, trivial⟩ ⟨gM (inS (by decide)) in0 in0 (by decide) in2 in0 hw, ⟨hi, hh⟩⟩ (by simp only [go_sem])
 ·refine aD ?_
  first | (refine aU (cK hl nmL (by decide) (by decide) i h hi hh) ⟨rfl, rfl⟩ ?_ rfl ?_; (focus first | rfl | (simp only [go_sem]; done))) | (refine hZ (cK hl nmL (by decide) (by decide) i h hi hh) ⟨rfl, rfl⟩ ?_ rfl ?_; (focus first | rfl | (simp only [go_sem]; done)))
  clear hi hh; rintro ⟨s, i, h⟩ ⟨hs, hi, hh⟩; simp only at hs hi hh; simp only [go_sem]
  have hw := (by decide +kernel : ∀ s ∈ nmL, s.size ≤ 7) s hs
  refine aD ?_
  first | (refine aU (aH hl 3 (by decide) (by decide) i h hi hh) ⟨rfl, rfl⟩ ?_ rfl ?_; (focus first | rfl | (simp only [go_sem]; done))) | (refine hZ (aH hl 3 (by decide) (by decide) i h hi hh) ⟨rfl, rfl⟩ ?_ rfl ?_; (focus first | rfl | (simp only [go_sem]; done)))
  clear hi hh; rintro ⟨x, i, h⟩ ⟨hx, hi, hh⟩; simp only at hx hi hh; simp only [go_sem]
  refine kS (nS ((1 : Int) + x)) ?_
  exact aJ (⟨4, 0, 0, s, ⟨1, 1 + x, ⟨#[]⟩⟩⟩, i, h) ⟨⟨_, rfl, by simp only [go_sem]⟩, trivial⟩ ⟨gM (inS (by decide)) in0 in0 hw in1 (inS (by omega)) z0, ⟨hi, hh⟩⟩ (by simp only [go_sem])
 ·refine aD ?_
  first | (refine aU (iP hl i h hi hh) ⟨rfl, rfl⟩ ?_ rfl ?_; (focus first | rfl | (simp only [go_sem]; done))) | (refine hZ (iP hl i h hi hh) ⟨rfl, rfl⟩ ?_ rfl ?_; (focus first | rfl | (simp only [go_sem]; done)))
  clear hi hh; rintro ⟨s, i, h⟩ ⟨hs, hi, hh⟩; simp only at hs hi hh; simp only [go_sem]
  have hw : s.size ≤ 7 := by unfold w1 at hs; omega
  refine aD ?_
  exact aJ (⟨8, 0, 0, s, ⟨0, 0, ⟨#[]⟩⟩⟩, i, h) ⟨⟨_, rfl, by simp only [go_sem]⟩, trivial⟩ ⟨gM (inS (by decide)) in0 in0 hw in0 in0 z0, ⟨hi, hh⟩⟩ (by simp only [go_sem])
 ·refine aD ?_
  first | (refine aU (iP hl i h hi hh) ⟨rfl, rfl⟩ ?_ rfl ?_; (focus first | rfl | (simp only [go_sem]; done))) | (refine hZ (iP hl i h hi hh) ⟨rfl, rfl⟩ ?_ rfl ?_; (focus first | rfl | (simp only [go_sem]; done)))
  clear hi hh; rintro ⟨s, i, h⟩ ⟨hs, hi, hh⟩; simp only at hs hi hh; simp only [go_sem]
  have hw : s.size ≤ 7 := by unfold w1 at hs; omega
  refine aD ?_
  exact aJ (⟨8, 0, 0, s, ⟨0, 0, ⟨#[]⟩⟩⟩, i, h) ⟨⟨_, rfl, by simp only [go_sem]⟩, trivial⟩ ⟨gM (inS (by decide)) in0 in0 hw in0 in0 z0, ⟨hi, hh⟩⟩ (by simp only [go_sem])
 ·refine aD ?_
  first | (refine aU (iP hl i h hi hh) ⟨rfl, rfl⟩ ?_ rfl ?_; (focus first | rfl | (simp only [go_sem]; done))) | (refine hZ (iP hl i h hi hh) ⟨rfl, rfl⟩ ?_ rfl ?_; (focus first | rfl | (simp only [go_sem]; done)))
  clear hi hh; rintro ⟨s, i, h⟩ ⟨hs, hi, hh⟩; simp only at hs hi hh; simp only [go_sem]
  have hw : s.size ≤ 7 := by unfold w1 at hs; omega
  refine aD ?_
  exact aJ (⟨9, 0, 0, s, ⟨0, 0, ⟨#[]⟩⟩⟩, i, h) ⟨⟨_, rfl, by simp only [go_sem]⟩, trivial⟩ ⟨gM (inS (by decide)) in0 in0 hw in0 in0 z0, ⟨hi, hh⟩⟩ (by simp only [go_sem])
 ·refine aD ?_
  first | (refine aU (aH hl 4 (by decide) (by decide) i h hi hh) ⟨rfl, rfl⟩ ?_ rfl ?_; (focus first | rfl | (simp only [go_sem]; done))) | (refine hZ (aH hl 4 (by decide) (by decide) i h hi hh) ⟨rfl, rfl⟩ ?_ rfl ?_; (focus first | rfl | (simp only [go_sem]; done)))
  clear hi hh; rintro ⟨x, i, h⟩ ⟨hx, hi, hh⟩; simp only at hx hi hh; simp only [go_sem]
  refine kS (nS x) ?_
  exact aJ (⟨3, 0, 0, ⟨#[98]⟩, ⟨1, x, ⟨#[]⟩⟩⟩, i, h) ⟨⟨_, rfl, by simp only [go_sem]⟩, trivial⟩ ⟨gM (inS (by decide)) in0 in0 (by decide) in1 (inS (by omega)) z0, ⟨hi, hh⟩⟩ (by simp only [go_sem])
structure qryD (p m : Nat) (q : List TNode) : Prop where
 lo : p < q.length
 hi : q.length ≤ m
 nd : ∀ n ∈ q, nodeD n
theorem nT {p m : Nat} {q : List TNode} {n : TNode} (h : ∀ x ∈ q, nodeD x) (hn : nodeD n) (h1 : p ≤ q.length) (h2 : q.length + 1 ≤ m) : qryD p m (q ++ [n]) := ⟨by simp; omega, by simp; omega, fun x hx => by
 rcases List.mem_append.1 hx with hx | hx
 ·exact h x hx
 ·simp only [List.mem_singleton] at hx; subst hx; exact hn⟩
theorem a6V (q : List TNode) : iL (q.map bH) = true := by
 unfold iL
 simp [bH, isV]
theorem b5V {q : List TNode} {m : Nat} (hl : q.length ≤ m) (h : ∀ n ∈ q, nodeD n) : wNodeS q ≤ m * 15 := by
 have : ∀ (q : List TNode), (∀ n ∈ q, nodeD n) → dU wC q ≤ q.length * 14 := fun q => by
  induction q with
  | nil => intro _; simp [dU]
  | cons x q ih =>
   intro h
   have h1 := (h x List.mem_cons_self).nm
   have h3 := (h x List.mem_cons_self).vs
   have h4 : wC x = x.fName.size + x.fValue.fStr.size := rfl
   have h2 := ih fun n hn => h n (List.mem_cons_of_mem _ hn)
   simp only [dU, List.length_cons, Nat.add_mul]
   omega
 have h2 := this q h
 unfold wNodeS
 omega
theorem uR {l : List Int} (hl : iM l) (nt : Bool) (i : Nat) (h : Int) (q : List TNode) (hi : i ≤ l.length) (hh : inR .i64 h) (hq : q.length ≤ 100) (hn : ∀ n ∈ q, nodeD n) :
    FnG Tryz.prog 184 120 (a2t l i h) 155 7 (q.map bH) [oi 0, ob nt] (fun x : List TNode × Nat × Int => qryD q.length (q.length + 1) x.1 ∧ (x.2.1 ≤ l.length ∧ inR .i64 x.2.2)) (fun x => x.1.map bH) (fun x => a2t l x.2.1 x.2.2) := by
 have hl1 : q.length + 1 ≤ 140737488355328 := by omega
 have hl2 : (q.length + 1) * 72 ≤ 140737488355328 := by omega
 refine b7w Tryz.func184 rfl Tryz.call184 rfl (fun C b => ?_); simp only [go_sem, stG, Tryz.ntmps184]
 refine aD ?_
 first | (refine aU (lI hl i h hi hh) ⟨rfl, rfl⟩ ?_ rfl ?_; (focus first | rfl | (simp only [go_sem]; done))) | (refine hZ (lI hl i h hi hh) ⟨rfl, rfl⟩ ?_ rfl ?_; (focus first | rfl | (simp only [go_sem]; done)))
 clear hi hh; rintro ⟨n, i, h⟩ ⟨hnn, hi, hh⟩; simp only at hnn hi hh; simp only [go_sem]
 have q0 := @hl1; have q1 := @hl2; refine jM ?_
 exact qF (q ++ [n], i, h) 1 ⟨nT hn hnn (Nat.le_refl _) (by omega), hi, hh⟩ (by simp only [go_sem]) (by simp only [go_sem, List.map_append]; try simp [bH]) (by simp only [go_sem])
theorem a8k {l : List Int} (hl : iM l) (nt : Bool) : ∀ (d : Nat) (i : Nat) (h : Int) (q : List TNode), i ≤ l.length → inR .i64 h → q.length + 3 * d ≤ 100 → (∀ n ∈ q, nodeD n) →
    FnG Tryz.prog 184 120 (a2t l i h) 155 7 (q.map bH) [oi (d : Nat), ob nt] (fun x : List TNode × Nat × Int => qryD q.length (q.length + 1 + 2 * d) x.1 ∧ (x.2.1 ≤ l.length ∧ inR .i64 x.2.2)) (fun x => x.1.map bH) (fun x => a2t l x.2.1 x.2.2) := by
 intro d
 induction d with
 | zero => intro i h q hi hh hq hn; exact uR hl nt i h q hi hh (by omega) hn
 | succ d ih =>
  intro i h q hi hh hq hn
  have hl1 : q.length + 1 ≤ 140737488355328 := by omega
  have hl2 : (q.length + 1) * 72 ≤ 140737488355328 := by omega
  have hd0 : ((d : Int) + 1 = 0) = False := by simp; omega
  have hd1 : (d : Int) + 1 - 1 = (d : Int) := by omega
  refine b7w Tryz.func184 rfl Tryz.call184 rfl (fun C b => ?_); simp only [go_sem, stG, Tryz.ntmps184, Int.natCast_add, Int.cast_ofNat_Int]
  have q0 := @hd0; refine iW ?_
  first | (refine aU (fK hl 3 (by decide) (by decide) i h hi hh) ⟨rfl, rfl⟩ ?_ rfl ?_; (focus first | rfl | (simp only [go_sem]; done))) | (refine hZ (fK hl 3 (by decide) (by decide) i h hi hh) ⟨rfl, rfl⟩ ?_ rfl ?_; (focus first | rfl | (simp only [go_sem]; done)))
  clear hi hh; rintro ⟨c1, i, h⟩ ⟨q1, hi, hh⟩; simp only at q1 hi hh; simp only [go_sem]
  cases c1
  case true =>
   refine aD ?_
   first | (refine aU (lI hl i h hi hh) ⟨rfl, rfl⟩ ?_ rfl ?_; (focus first | rfl | (simp only [go_sem]; done))) | (refine hZ (lI hl i h hi hh) ⟨rfl, rfl⟩ ?_ rfl ?_; (focus first | rfl | (simp only [go_sem]; done)))
   clear hi hh; rintro ⟨n, i, h⟩ ⟨hnn, hi, hh⟩; simp only at hnn hi hh; simp only [go_sem]
   have q0 := @hl1; have q1 := @hl2; refine jM ?_
   exact qF (q ++ [n], i, h) 1 ⟨nT hn hnn (Nat.le_refl _) (by omega), hi, hh⟩ (by simp only [go_sem]) (by simp only [go_sem, List.map_append]; try simp [bH]) (by simp only [go_sem])
  refine aD ?_
  first | (refine aU (aH hl 5 (by decide) (by decide) i h hi hh) ⟨rfl, rfl⟩ ?_ rfl ?_; (focus first | rfl | (simp only [go_sem]; done))) | (refine hZ (aH hl 5 (by decide) (by decide) i h hi hh) ⟨rfl, rfl⟩ ?_ rfl ?_; (focus first | rfl | (simp only [go_sem]; done)))
  clear hi hh; rintro ⟨k, i, h⟩ ⟨hk, hi, hh⟩; simp only at hk hi hh; simp only [go_sem]
  have two : ∀ (x : List TNode × Nat × Int), qryD q.length (q.length + 1 + 2 * d) x.1 → x.1.length ≤ 100 := fun x hx => by have := hx.hi; omega
  by_cases k0 : k = 0
  ·cases nt
   case true =>
    have q0 := @k0; have q1 := @hd1; have q2 := @decide_true; refine kI ?_
    refine a3T (ih i h q hi hh (by omega) hn) ⟨rfl, rfl⟩ rfl (a6V q) (by simp only [go_sem, hd1]) rfl ?_
    clear hi hh
    rintro ⟨p2, i, h⟩ ⟨hq2, hi, hh⟩
    simp only at hq2 hi hh
    have g1 := hq2.hi
    have g2 := hq2.lo
    have hm1 : p2.length + 1 ≤ 140737488355328 := by omega
    have hm2 : (p2.length + 1) * 72 ≤ 140737488355328 := by omega
    simp only [go_sem]
    have q0 := @hm1; have q1 := @hm2; refine jM ?_
    exact qF (p2 ++ [⟨5, (p2.length : Int) - 1, 0, ⟨#[]⟩, ⟨0, 0, ⟨#[]⟩⟩⟩], i, h) 2 ⟨nT hq2.nd (gM (inS (by decide)) (inS (by omega)) in0 (Nat.zero_le _) in0 in0 (Nat.zero_le _)) (by omega) (by omega), hi, hh⟩ (by simp only [go_sem]) (by simp only [go_sem, List.map_append]; try simp [bH]) (by simp only [go_sem])
   have q0 := @k0; have q1 := @hd1; have q2 := @decide_true; refine kI ?_
   refine a3T (ih i h q hi hh (by omega) hn) ⟨rfl, rfl⟩ rfl (a6V q) (by simp only [go_sem, hd1]) rfl ?_
   clear hi hh
   rintro ⟨p2, i, h⟩ ⟨hq2, hi, hh⟩
   simp only at hq2 hi hh
   have g1 := hq2.hi
   have g2 := hq2.lo
   simp only [go_sem]
   refine aD ?_
   refine a3T (uR hl false i h p2 hi hh (by omega) hq2.nd) ⟨rfl, rfl⟩ rfl (a6V p2) (by simp only [go_sem]) rfl ?_
   clear hi hh
   rintro ⟨p3, i, h⟩ ⟨hq3, hi, hh⟩
   simp only at hq3 hi hh
   have g3 := hq3.hi
   have g4 := hq3.lo
   have hm1 : p3.length + 1 ≤ 140737488355328 := by omega
   have hm2 : (p3.length + 1) * 72 ≤ 140737488355328 := by omega
   simp only [go_sem]
   have k3 : k < 3 := by omega
   have q0 := @k3; have q1 := @decide_true; have q2 := @hm1; have q3 := @hm2; refine jQ ?_
   exact qF (p3 ++ [⟨6, (p2.length : Int) - 1, (p3.length : Int) - 1, ⟨#[]⟩, ⟨0, 0, ⟨#[]⟩⟩⟩], i, h) 3 ⟨nT hq3.nd (gM (inS (by decide)) (inS (by omega)) (inS (by omega)) (Nat.zero_le _) in0 in0 (Nat.zero_le _)) (by omega) (by omega), hi, hh⟩ (by simp only [go_sem]) (by simp only [go_sem, List.map_append]; try simp [bH]) (by simp only [go_sem])
  ·have q0 := @k0; have q1 := @hd1; have q2 := @decide_false; refine kI ?_
   refine a3T (ih i h q hi hh (by omega) hn) ⟨rfl, rfl⟩ rfl (a6V q) (by simp only [go_sem, hd1]) rfl ?_
   clear hi hh
   rintro ⟨p2, i, h⟩ ⟨hq2, hi, hh⟩
   simp only at hq2 hi hh
   have g1 := hq2.hi
   have g2 := hq2.lo
   simp only [go_sem]
   refine aD ?_
   refine a3T (uR hl nt i h p2 hi hh (by omega) hq2.nd) ⟨rfl, rfl⟩ rfl (a6V p2) (by simp only [go_sem]) rfl ?_
   clear hi hh
   rintro ⟨p3, i, h⟩ ⟨hq3, hi, hh⟩
   simp only at hq3 hi hh
   have g3 := hq3.hi
   have g4 := hq3.lo
   have hm1 : p3.length + 1 ≤ 140737488355328 := by omega
   have hm2 : (p3.length + 1) * 72 ≤ 140737488355328 := by omega
   simp only [go_sem]
   by_cases k3 : k < 3
   ·have q0 := @k3; have q1 := @decide_true; have q2 := @hm1; have q3 := @hm2; refine jQ ?_
    exact qF (p3 ++ [⟨6, (p2.length : Int) - 1, (p3.length : Int) - 1, ⟨#[]⟩, ⟨0, 0, ⟨#[]⟩⟩⟩], i, h) 3 ⟨nT hq3.nd (gM (inS (by decide)) (inS (by omega)) (inS (by omega)) (Nat.zero_le _) in0 in0 (Nat.zero_le _)) (by omega) (by omega), hi, hh⟩ (by simp only [go_sem]) (by simp only [go_sem, List.map_append]; try simp [bH]) (by simp only [go_sem])
   ·have q0 := @k3; have q1 := @decide_false; have q2 := @hm1; have q3 := @hm2; refine jQ ?_
    exact qF (p3 ++ [⟨7, (p2.length : Int) - 1, (p3.length : Int) - 1, ⟨#[]⟩, ⟨0, 0, ⟨#[]⟩⟩⟩], i, h) 3 ⟨nT hq3.nd (gM (inS (by decide)) (inS (by omega)) (inS (by omega)) (Nat.zero_le _) in0 in0 (Nat.zero_le _)) (by omega) (by omega), hi, hh⟩ (by simp only [go_sem]) (by simp only [go_sem, List.map_append]; try simp [bH]) (by simp only [go_sem])
theorem bC {l : List Int} (hl : iM l) : Drw l 136 [] (fun q : List TNode => qryD 0 7 q) (fun q => .o (.w 155 7 (q.map bH))) := by
 intro i h hi hh; refine oD Tryz.func136 rfl Tryz.call136 rfl (fun C b => ?_); simp only [go_sem, Tryz.ntmps136]
 refine aD ?_
 first | (refine aU (aH hl 4 (by decide) (by decide) i h hi hh) ⟨rfl, rfl⟩ ?_ rfl ?_; (focus first | rfl | (simp only [go_sem]; done))) | (refine hZ (aH hl 4 (by decide) (by decide) i h hi hh) ⟨rfl, rfl⟩ ?_ rfl ?_; (focus first | rfl | (simp only [go_sem]; done)))
 clear hi hh; rintro ⟨x, i, h⟩ ⟨hx, hi, hh⟩; simp only at hx hi hh; simp only [go_sem]
 obtain ⟨d, rfl⟩ := Int.eq_ofNat_of_zero_le hx.1
 refine aD ?_
 refine b5U 155 7 ?_
 refine a3T (a8k hl true d i h [] hi hh (by simp; omega) (fun n hn => by simp at hn)) ⟨rfl, rfl⟩ rfl rfl (by simp only [go_sem]) rfl ?_
 clear hi hh
 rintro ⟨q, i, h⟩ ⟨hq, hi, hh⟩
 simp only at hq hi hh
 simp only [go_sem]
 refine aD ?_
 have g1 := hq.hi
 simp only [List.length_nil] at g1
 exact aJ (q, i, h) ⟨⟨_, rfl, by simp only [go_sem]⟩, trivial⟩ ⟨(show qryD 0 7 q from ⟨hq.lo, by omega, hq.nd⟩), ⟨hi, hh⟩⟩ (by simp only [go_sem])
@[go_sem] def b5W : List ByteArray := [⟨#[]⟩, ⟨#[97]⟩, ⟨#[100, 97]⟩, ⟨#[97, 98, 99, 100, 101, 102, 103]⟩, ⟨#[65]⟩]
structure qryA (q : List TNode) : Prop where
 hi : q.length ≤ 8
 nd : ∀ n ∈ q, nodeD n
theorem a5i {q : List TNode} (h : ∀ n ∈ q, nodeD n) (k : Nat) {n : TNode} (hn : nodeD n) : ∀ x ∈ q.set k n, nodeD x := fun x hx => by
 rcases List.mem_or_eq_of_mem_set hx with hx | rfl
 ·exact h x hx
 ·exact hn
theorem a3U {l : List Int} (hl : iM l) : Drw l 135 [] (fun q : List TNode => qryA q) (fun q => .o (.w 155 7 (q.map bH))) := by
 intro i h hi hh; refine oD Tryz.func135 rfl Tryz.call135 rfl (fun C b => ?_); simp only [go_sem, Tryz.ntmps135]
 refine aD ?_
 first | (refine aU (bC hl i h hi hh) ⟨rfl, rfl⟩ ?_ rfl ?_; (focus first | rfl | (simp only [go_sem]; done))) | (refine hZ (bC hl i h hi hh) ⟨rfl, rfl⟩ ?_ rfl ?_; (focus first | rfl | (simp only [go_sem]; done)))
 clear hi hh; rintro ⟨q, i, h⟩ ⟨hq, hi, hh⟩; simp only at hq hi hh; simp only [go_sem]
 have hlo := hq.lo
 have hhi := hq.hi
 have hnd := hq.nd
 clear hq
 refine aD ?_
 first | (refine aU (aH hl (q.length : Int) (by omega) (by omega) i h hi hh) ⟨rfl, rfl⟩ ?_ rfl ?_; (focus first | rfl | (simp only [go_sem]; done))) | (refine hZ (aH hl (q.length : Int) (by omega) (by omega) i h hi hh) ⟨rfl, rfl⟩ ?_ rfl ?_; (focus first | rfl | (simp only [go_sem]; done)))
 clear hi hh; rintro ⟨x, i, h⟩ ⟨hx, hi, hh⟩; simp only at hx hi hh; simp only [go_sem]
 obtain ⟨k, rfl⟩ := Int.eq_ofNat_of_zero_le hx.1
 have hk : k < q.length := by omega
 have hn := hnd q[k] (List.getElem_mem hk)
 have hw := hn.nm
 have hx2 := hn.vs
 have hf := hn.wf
 have hv := hf.2.2.2.2
 refine aD ?_
 first | (refine aU (aH hl 10 (by decide) (by decide) i h hi hh) ⟨rfl, rfl⟩ ?_ rfl ?_; (focus first | rfl | (simp only [go_sem]; done))) | (refine hZ (aH hl 10 (by decide) (by decide) i h hi hh) ⟨rfl, rfl⟩ ?_ rfl ?_; (focus first | rfl | (simp only [go_sem]; done)))
 clear hi hh; rintro ⟨c, i, h⟩ ⟨hc, hi, hh⟩; simp only at hc hi hh; simp only [go_sem]
 have hl1 : q.length + 1 ≤ 140737488355328 := by omega
 have hl2 : (q.length + 1) * 72 ≤ 140737488355328 := by omega
 have h6 : c = 0 ∨ c = 1 ∨ c = 2 ∨ c = 3 ∨ c = 4 ∨ c = 5 ∨ (¬ c = 0 ∧ ¬ c = 1 ∧ ¬ c = 2 ∧ ¬ c = 3 ∧ ¬ c = 4 ∧ ¬ c = 5) := by omega
 rcases h6 with rfl | rfl | rfl | rfl | rfl | rfl | ⟨k0, k1, k2, k3, k4, k5⟩
 ·have q0 := @hk; refine iW ?_
  first | (refine aU (aH hl 12 (by decide) (by decide) i h hi hh) ⟨rfl, rfl⟩ ?_ rfl ?_; (focus first | rfl | (simp only [go_sem]; done))) | (refine hZ (aH hl 12 (by decide) (by decide) i h hi hh) ⟨rfl, rfl⟩ ?_ rfl ?_; (focus first | rfl | (simp only [go_sem]; done)))
  clear hi hh; rintro ⟨y, i, h⟩ ⟨hy, hi, hh⟩; simp only at hy hi hh; simp only [go_sem]
  have q0 := @hk; refine iW ?_
  exact aJ (q.set k ⟨y - 1, q[k].fLeft, q[k].fRight, q[k].fName, q[k].fValue⟩, i, h) ⟨⟨_, rfl, by simp only [go_sem, List.map_set]⟩, trivial⟩ ⟨(show qryA (q.set k ⟨y - 1, q[k].fLeft, q[k].fRight, q[k].fName, q[k].fValue⟩) from ⟨by simp; omega, a5i hnd k ⟨hw, hx2, (show inR .i64 (y - 1) from inS (by omega)), hf.2⟩⟩), ⟨hi, hh⟩⟩ (by simp only [go_sem])
 ·have q0 := @hk; refine iW ?_
  first | (refine aU (fJ hl [-1, 0, (k : Int), 8, 9223372036854775807] (by simp) (by simp) i h hi hh) ⟨rfl, rfl⟩ ?_ rfl ?_; (focus first | rfl | (simp only [go_sem]; done))) | (refine hZ (fJ hl [-1, 0, (k : Int), 8, 9223372036854775807] (by simp) (by simp) i h hi hh) ⟨rfl, rfl⟩ ?_ rfl ?_; (focus first | rfl | (simp only [go_sem]; done)))
  clear hi hh; rintro ⟨y, i, h⟩ ⟨hy, hi, hh⟩; simp only at hy hi hh; simp only [go_sem]
  have hy2 : inR .i64 y := by
   simp only [List.mem_cons, List.not_mem_nil, or_false] at hy
   simp only [inR]
   omega
  have q0 := @hk; refine iW ?_
  exact aJ (q.set k ⟨q[k].fOp, y, q[k].fRight, q[k].fName, q[k].fValue⟩, i, h) ⟨⟨_, rfl, by simp only [go_sem, List.map_set]⟩, trivial⟩ ⟨(show qryA (q.set k ⟨q[k].fOp, y, q[k].fRight, q[k].fName, q[k].fValue⟩) from ⟨by simp; omega, a5i hnd k ⟨hw, hx2, hf.1, hy2, hf.2.2⟩⟩), ⟨hi, hh⟩⟩ (by simp only [go_sem])
 ·have q0 := @hk; refine iW ?_
  first | (refine aU (cK hl b5W (by decide) (by decide) i h hi hh) ⟨rfl, rfl⟩ ?_ rfl ?_; (focus first | rfl | (simp only [go_sem]; done))) | (refine hZ (cK hl b5W (by decide) (by decide) i h hi hh) ⟨rfl, rfl⟩ ?_ rfl ?_; (focus first | rfl | (simp only [go_sem]; done)))
  clear hi hh; rintro ⟨y, i, h⟩ ⟨hy, hi, hh⟩; simp only at hy hi hh; simp only [go_sem]
  have hy2 := (by decide +kernel : ∀ n ∈ b5W, n.size ≤ 7) y hy
  have q0 := @hk; refine iW ?_
  exact aJ (q.set k ⟨q[k].fOp, q[k].fLeft, q[k].fRight, y, q[k].fValue⟩, i, h) ⟨⟨_, rfl, by simp only [go_sem, List.map_set]⟩, trivial⟩ ⟨(show qryA (q.set k ⟨q[k].fOp, q[k].fLeft, q[k].fRight, y, q[k].fValue⟩) from ⟨by simp; omega, a5i hnd k ⟨hy2, hx2, hf.1, hf.2.1, hf.2.2.1, (show y.size ≤ _ by omega), hv⟩⟩), ⟨hi, hh⟩⟩ (by simp only [go_sem])
 ·have q0 := @hk; refine iW ?_
  first | (refine aU (lI hl i h hi hh) ⟨rfl, rfl⟩ ?_ rfl ?_; (focus first | rfl | (simp only [go_sem]; done))) | (refine hZ (lI hl i h hi hh) ⟨rfl, rfl⟩ ?_ rfl ?_; (focus first | rfl | (simp only [go_sem]; done)))
  clear hi hh; rintro ⟨y, i, h⟩ ⟨hy, hi, hh⟩; simp only at hy hi hh; simp only [go_sem]
  have q0 := @hk; have q1 := @hl1; have q2 := @hl2; refine kI ?_
  exact aJ (q ++ [y], i, h) ⟨⟨_, rfl, by simp only [go_sem, List.map_append]; try simp [bH]⟩, trivial⟩ ⟨(show qryA (q ++ [y]) from ⟨by simp; omega, (nT (p := 0) hnd hy (Nat.zero_le _) (Nat.le_refl _)).nd⟩), ⟨hi, hh⟩⟩ (by simp only [go_sem])
 ·have q0 := @hk; refine iW ?_
  first | (refine aU (vP hl i h hi hh) ⟨rfl, rfl⟩ ?_ rfl ?_; (focus first | rfl | (simp only [go_sem]; done))) | (refine hZ (vP hl i h hi hh) ⟨rfl, rfl⟩ ?_ rfl ?_; (focus first | rfl | (simp only [go_sem]; done)))
  clear hi hh; rintro ⟨y, i, h⟩ ⟨hy, hi, hh⟩; simp only at hy hi hh; simp only [go_sem]
  have q0 := @hk; refine iW ?_
  exact aJ (q.set k ⟨q[k].fOp, q[k].fLeft, q[k].fRight, q[k].fName, y⟩, i, h) ⟨⟨_, rfl, by simp only [go_sem, List.map_set]⟩, trivial⟩ ⟨(show qryA (q.set k ⟨q[k].fOp, q[k].fLeft, q[k].fRight, q[k].fName, y⟩) from ⟨by simp; omega, a5i hnd k ⟨hw, hy.w, hf.1, hf.2.1, hf.2.2.1, hf.2.2.2.1, hy.k, hy.n, (show y.fStr.size ≤ _ by have := hy.w; omega)⟩⟩), ⟨hi, hh⟩⟩ (by simp only [go_sem])
 ·refine aD ?_
  exact aJ ([], i, h) ⟨⟨_, rfl, by simp only [go_sem]⟩, trivial⟩ ⟨(show qryA [] from ⟨by simp, fun n hn => by simp at hn⟩), ⟨hi, hh⟩⟩ (by simp only [go_sem])
 ·have q0 := @k0; have q1 := @k1; have q2 := @k2; have q3 := @k3; have q4 := @k4; have q5 := @k5; have q6 := @decide_false; refine b0u ?_
  exact aJ (q, i, h) ⟨⟨_, rfl, by simp only [go_sem]⟩, trivial⟩ ⟨(show qryA q from ⟨by omega, hnd⟩), ⟨hi, hh⟩⟩ (by simp only [go_sem])
end Go.Proofs.YtgpoopjfkplilaaGreatDoor
end
section
set_option maxRecDepth 100000
set_option maxHeartbeats 4000000
namespace Go.Proofs.YtgpoopjfkplilaaGreatDoor
open Go Go.Sx Go.RowKit Go.Proofs
structure dirsD (m : Nat) (d : List TDir) : Prop where
 hi : d.length ≤ m
 nm : ∀ x ∈ d, x.fName.size ≤ 7
 qy : ∀ x ∈ d, qryA x.fQuery
theorem a0q (m : Nat) : dirsD m [] := ⟨Nat.zero_le _, fun x h => by simp at h, fun x h => by simp at h⟩
theorem mG {p m : Nat} {q : List TNode} (h : qryD p m q) (hm : m ≤ 8) : qryA q := ⟨by have := h.hi; omega, h.nd⟩
theorem iO {m n : Nat} {d : List TDir} {x : TDir} (h : dirsD m d) (hn : d.length + 1 ≤ n) (h1 : x.fName.size ≤ 7) (h2 : qryA x.fQuery) : dirsD n (d ++ [x]) := ⟨by simpa using hn, fun y hy => by
 rcases List.mem_append.1 hy with hy | hy
 ·exact h.nm y hy
 ·simp only [List.mem_singleton] at hy; subst hy; exact h1, fun y hy => by
 rcases List.mem_append.1 hy with hy | hy
 ·exact h.qy y hy
 ·simp only [List.mem_singleton] at hy; subst hy; exact h2⟩
theorem a3H {m : Nat} {d : List TDir} {x : TDir} (h : dirsD m d) (k : Nat) (h1 : x.fName.size ≤ 7) (h2 : qryA x.fQuery) : dirsD m (d.set k x) := ⟨by simpa using h.hi, fun y hy => by
 rcases List.mem_or_eq_of_mem_set hy with hy | rfl
 ·exact h.nm y hy
 ·exact h1, fun y hy => by
 rcases List.mem_or_eq_of_mem_set hy with hy | rfl
 ·exact h.qy y hy
 ·exact h2⟩
theorem a8b {m : Nat} {d : List TDir} (h : dirsD m d) (k : Nat) : dirsD m (d.take k) := ⟨by have := h.hi; simp; omega, fun y hy => h.nm y (List.mem_of_mem_take hy), fun y hy => h.qy y (List.mem_of_mem_take hy)⟩
theorem a6F {m n : Nat} {d : List TDir} (h : dirsD m d) (hn : m ≤ n) : dirsD n d := ⟨by have := h.hi; omega, h.nm, h.qy⟩
theorem a9o {m : Nat} {d : List TDir} (h : dirsD m d) (hm : m ≤ 6) : jR d ≤ 900 := by
 have h1 := zC nZ 140 d fun x hx => by
  have h2 := h.nm x hx
  have h3 := h.qy x hx
  have h4 := b5V h3.hi h3.nd
  unfold nZ
  omega
 have h2 := h.hi
 unfold jR
 have : d.length * 140 ≤ 6 * 140 := Nat.mul_le_mul_right _ (by omega)
 omega
theorem rO {l : List Int} (hl : iM l) : Drw l 133 [] (fun d : List TDir => dirsD 4 d ∧ 0 < d.length) (fun d => .o (.w 90 2 (d.map eP))) := by
 intro i h hi hh; refine oD Tryz.func133 rfl Tryz.call133 rfl (fun C b => ?_); simp only [go_sem, Tryz.ntmps133]
 refine aD ?_
 refine dB (α := Nat × List TDir × Nat × Int) (fun x => [(3, .o (.s 1)), (4, oi x.1), (5, .o .u)]) (fun x => [(0, .pin b 120 [.sl (l.map uN), iv x.2.2.1, iv x.2.2.2]), (1, .row 90 2 (x.2.1.map eP) true)]) (fun x => (x.1 ≤ 4 ∧ x.2.1.length = x.1 ∧ dirsD 4 x.2.1) ∧ (x.2.2.1 ≤ l.length ∧ inR .i64 x.2.2.2)) (fun x => 5 - x.1) (0, [], i, h) (fun _ => ?_) ?_ ?_ (fun x hx => ?_)
 ·simp only [go_sem]
 ·simp only [go_sem]; simp
 ·exact ⟨⟨Nat.zero_le _, rfl, a0q 4⟩, hi, hh⟩
 ·clear hi hh
  obtain ⟨k, d, i, h⟩ := x
  obtain ⟨⟨k4, hk, hd⟩, hi, hh⟩ := hx
  simp only at k4 hk hd hi hh
  simp only [go_sem]
  refine aD ?_
  first | (refine aU (aH hl 4 (by decide) (by decide) i h hi hh) ⟨rfl, rfl⟩ ?_ rfl ?_; (focus first | rfl | (simp only [go_sem]; done))) | (refine hZ (aH hl 4 (by decide) (by decide) i h hi hh) ⟨rfl, rfl⟩ ?_ rfl ?_; (focus first | rfl | (simp only [go_sem]; done)))
  clear hi hh; rintro ⟨x, i, h⟩ ⟨hx, hi, hh⟩; simp only at hx hi hh; simp only [go_sem]
  refine aD ?_
  refine cnd rfl (fun hlt => ?_) (fun hlt => ?_)
  ·simp only [decide_eq_true_eq] at hlt
   have h4 : k = 0 ∨ k = 1 ∨ k = 2 ∨ k = 3 := by omega
   have hq1 : d.length + 1 ≤ 140737488355328 := by omega
   have hq2 : (d.length + 1) * 40 ≤ 140737488355328 := by omega
   have r0 : ∀ (a b c e : List D), eO [a, b, c, e] 0 = a := fun _ _ _ _ => rfl
   have r1 : ∀ (a b c e : List D), eO [a, b, c, e] 1 = b := fun _ _ _ _ => rfl
   have r2 : ∀ (a b c e : List D), eO [a, b, c, e] 2 = c := fun _ _ _ _ => rfl
   have r3 : ∀ (a b c e : List D), eO [a, b, c, e] 3 = e := fun _ _ _ _ => rfl
   have rs : ∀ (a : D), sub [a] 0 1 = some [a] := fun _ => rfl
   clear hlt hx
   rcases h4 with rfl | rfl | rfl | rfl
   ·have qH := aI @hq1 (aI @hq2 (aI @r0 (aI @r1 (aI @r2 (aI @r3 @rs))))); repeat' (with_reducible first | refine nY ?_ | (refine mX ?_; try simp only [go_sem, qH]) | refine kD ?_ | (apply rF [1,6,8,9,10] [10] [0,2,5] [0,2,5] ((.c 1 [3,4] [0,2,3,4,5] (.c 6 [7] [0,2,3,4,7] (.c 8 [] [0] (.c 9 [] [] (.c 10 [] [] .n .n) .n) .n) .n) (.c 6 [] [0,2] (.c 1 [3,4,7] [0,2,3,4,7] (.c 8 [] [0] (.c 9 [] [] (.c 10 [] [] .n .n) .n) .n) .n) .n))) (by simp only [go_sem]; rfl) (by simp only [go_sem]; rfl) (by simp only [go_sem]; rfl) (by decide +kernel); (focus simp only [go_sem]; done)) | exact bA | refine aM (uX ?_) ?_ | refine aN (aX ?_) ?_ | refine aP (aX ?_) ?_ | exact bD | exact oH | exact uB | refine rD ?_ | refine aO ?_ | fail)
    all_goals
     skip
     first | (refine aU (bC hl i h hi hh) ⟨rfl, rfl⟩ ?_ rfl ?_; (focus first | rfl | (simp only [go_sem]; done))) | (refine hZ (bC hl i h hi hh) ⟨rfl, rfl⟩ ?_ rfl ?_; (focus first | rfl | (simp only [go_sem]; done)))
     clear hi hh; rintro ⟨q, i, h⟩ ⟨hq, hi, hh⟩; simp only at hq hi hh; simp only [go_sem]
     have qH := aI @hq1 (aI @hq2 (aI @r0 (aI @r1 (aI @r2 (aI @r3 @rs))))); repeat' (with_reducible first | refine nY ?_ | (refine mX ?_; try simp only [go_sem, qH]) | refine kD ?_ | exact bA | refine aM (uX ?_) ?_ | refine aN (aX ?_) ?_ | refine aP (aX ?_) ?_ | exact uB | refine rD ?_ | refine aO ?_ | fail)
     refine aQ (1, d ++ [⟨⟨#[100, 97]⟩, q⟩], i, h) ?_ ?_ ?_
     ·simp only [go_sem, List.map_append, List.map_cons, List.map_nil]; simp
     ·exact ⟨⟨by simp only; omega, by simp [hk], iO hd (by omega) (by simp only; decide) (mG hq (by decide))⟩, hi, hh⟩
     ·simp only; omega
   ·have qH := aI @hq1 (aI @hq2 (aI @r0 (aI @r1 (aI @r2 (aI @r3 @rs))))); repeat' (with_reducible first | refine nY ?_ | (refine mX ?_; try simp only [go_sem, qH]) | refine kD ?_ | (apply rF [1,6,8,9,10] [10] [0,2,5] [0,2,5] ((.c 1 [3,4] [0,2,3,4,5] (.c 6 [7] [0,2,3,4,7] (.c 8 [] [0] (.c 9 [] [] (.c 10 [] [] .n .n) .n) .n) .n) (.c 6 [] [0,2] (.c 1 [3,4,7] [0,2,3,4,7] (.c 8 [] [0] (.c 9 [] [] (.c 10 [] [] .n .n) .n) .n) .n) .n))) (by simp only [go_sem]; rfl) (by simp only [go_sem]; rfl) (by simp only [go_sem]; rfl) (by decide +kernel); (focus simp only [go_sem]; done)) | exact bA | refine aM (uX ?_) ?_ | refine aN (aX ?_) ?_ | refine aP (aX ?_) ?_ | exact bD | exact oH | exact uB | refine rD ?_ | refine aO ?_ | fail)
    all_goals
     skip
     first | (refine aU (bC hl i h hi hh) ⟨rfl, rfl⟩ ?_ rfl ?_; (focus first | rfl | (simp only [go_sem]; done))) | (refine hZ (bC hl i h hi hh) ⟨rfl, rfl⟩ ?_ rfl ?_; (focus first | rfl | (simp only [go_sem]; done)))
     clear hi hh; rintro ⟨q, i, h⟩ ⟨hq, hi, hh⟩; simp only at hq hi hh; simp only [go_sem]
     have qH := aI @hq1 (aI @hq2 (aI @r0 (aI @r1 (aI @r2 (aI @r3 @rs))))); repeat' (with_reducible first | refine nY ?_ | (refine mX ?_; try simp only [go_sem, qH]) | refine kD ?_ | exact bA | refine aM (uX ?_) ?_ | refine aN (aX ?_) ?_ | refine aP (aX ?_) ?_ | exact uB | refine rD ?_ | refine aO ?_ | fail)
     refine aQ (2, d ++ [⟨⟨#[100, 98]⟩, q⟩], i, h) ?_ ?_ ?_
     ·simp only [go_sem, List.map_append, List.map_cons, List.map_nil]; simp
     ·exact ⟨⟨by simp only; omega, by simp [hk], iO hd (by omega) (by simp only; decide) (mG hq (by decide))⟩, hi, hh⟩
     ·simp only; omega
   ·have qH := aI @hq1 (aI @hq2 (aI @r0 (aI @r1 (aI @r2 (aI @r3 @rs))))); repeat' (with_reducible first | refine nY ?_ | (refine mX ?_; try simp only [go_sem, qH]) | refine kD ?_ | (apply rF [1,6,8,9,10] [10] [0,2,5] [0,2,5] ((.c 1 [3,4] [0,2,3,4,5] (.c 6 [7] [0,2,3,4,7] (.c 8 [] [0] (.c 9 [] [] (.c 10 [] [] .n .n) .n) .n) .n) (.c 6 [] [0,2] (.c 1 [3,4,7] [0,2,3,4,7] (.c 8 [] [0] (.c 9 [] [] (.c 10 [] [] .n .n) .n) .n) .n) .n))) (by simp only [go_sem]; rfl) (by simp only [go_sem]; rfl) (by simp only [go_sem]; rfl) (by decide +kernel); (focus simp only [go_sem]; done)) | exact bA | refine aM (uX ?_) ?_ | refine aN (aX ?_) ?_ | refine aP (aX ?_) ?_ | exact bD | exact oH | exact uB | refine rD ?_ | refine aO ?_ | fail)
    all_goals
     skip
     first | (refine aU (bC hl i h hi hh) ⟨rfl, rfl⟩ ?_ rfl ?_; (focus first | rfl | (simp only [go_sem]; done))) | (refine hZ (bC hl i h hi hh) ⟨rfl, rfl⟩ ?_ rfl ?_; (focus first | rfl | (simp only [go_sem]; done)))
     clear hi hh; rintro ⟨q, i, h⟩ ⟨hq, hi, hh⟩; simp only at hq hi hh; simp only [go_sem]
     have qH := aI @hq1 (aI @hq2 (aI @r0 (aI @r1 (aI @r2 (aI @r3 @rs))))); repeat' (with_reducible first | refine nY ?_ | (refine mX ?_; try simp only [go_sem, qH]) | refine kD ?_ | exact bA | refine aM (uX ?_) ?_ | refine aN (aX ?_) ?_ | refine aP (aX ?_) ?_ | exact uB | refine rD ?_ | refine aO ?_ | fail)
     refine aQ (3, d ++ [⟨⟨#[100, 99]⟩, q⟩], i, h) ?_ ?_ ?_
     ·simp only [go_sem, List.map_append, List.map_cons, List.map_nil]; simp
     ·exact ⟨⟨by simp only; omega, by simp [hk], iO hd (by omega) (by simp only; decide) (mG hq (by decide))⟩, hi, hh⟩
     ·simp only; omega
   ·have qH := aI @hq1 (aI @hq2 (aI @r0 (aI @r1 (aI @r2 (aI @r3 @rs))))); repeat' (with_reducible first | refine nY ?_ | (refine mX ?_; try simp only [go_sem, qH]) | refine kD ?_ | (apply rF [1,6,8,9,10] [10] [0,2,5] [0,2,5] ((.c 1 [3,4] [0,2,3,4,5] (.c 6 [7] [0,2,3,4,7] (.c 8 [] [0] (.c 9 [] [] (.c 10 [] [] .n .n) .n) .n) .n) (.c 6 [] [0,2] (.c 1 [3,4,7] [0,2,3,4,7] (.c 8 [] [0] (.c 9 [] [] (.c 10 [] [] .n .n) .n) .n) .n) .n))) (by simp only [go_sem]; rfl) (by simp only [go_sem]; rfl) (by simp only [go_sem]; rfl) (by decide +kernel); (focus simp only [go_sem]; done)) | exact bA | refine aM (uX ?_) ?_ | refine aN (aX ?_) ?_ | refine aP (aX ?_) ?_ | exact bD | exact oH | exact uB | refine rD ?_ | refine aO ?_ | fail)
    all_goals
     skip
     first | (refine aU (bC hl i h hi hh) ⟨rfl, rfl⟩ ?_ rfl ?_; (focus first | rfl | (simp only [go_sem]; done))) | (refine hZ (bC hl i h hi hh) ⟨rfl, rfl⟩ ?_ rfl ?_; (focus first | rfl | (simp only [go_sem]; done)))
     clear hi hh; rintro ⟨q, i, h⟩ ⟨hq, hi, hh⟩; simp only at hq hi hh; simp only [go_sem]
     have qH := aI @hq1 (aI @hq2 (aI @r0 (aI @r1 (aI @r2 (aI @r3 @rs))))); repeat' (with_reducible first | refine nY ?_ | (refine mX ?_; try simp only [go_sem, qH]) | refine kD ?_ | exact bA | refine aM (uX ?_) ?_ | refine aN (aX ?_) ?_ | refine aP (aX ?_) ?_ | exact uB | refine rD ?_ | refine aO ?_ | fail)
     refine aQ (4, d ++ [⟨⟨#[100, 100]⟩, q⟩], i, h) ?_ ?_ ?_
     ·simp only [go_sem, List.map_append, List.map_cons, List.map_nil]; simp
     ·exact ⟨⟨by simp only; omega, by simp [hk], iO hd (by omega) (by simp only; decide) (mG hq (by decide))⟩, hi, hh⟩
     ·simp only; omega
  ·refine aD ?_
   exact aJ (d, i, h) ⟨⟨_, rfl, by simp only [go_sem]⟩, trivial⟩ ⟨(show dirsD 4 d ∧ 0 < d.length from ⟨hd, by simp only [decide_eq_false_iff_not] at hlt; omega⟩), ⟨hi, hh⟩⟩ (by simp only [go_sem])
@[go_sem] def nmY : List ByteArray := [⟨#[]⟩, ⟨#[65]⟩, ⟨#[122, 122]⟩, ⟨#[97, 98, 99, 100, 101, 102, 103]⟩]
theorem a3I {l : List Int} (hl : iM l) : Drw l 86 [] (fun d : List TDir => dirsD 6 d) (fun d => .o (.d (.sl (d.map eP)))) := by
 intro i h hi hh; refine oD Tryz.func86 rfl Tryz.call86 rfl (fun C b => ?_); simp only [go_sem, Tryz.ntmps86]
 refine aD ?_
 first | (refine aU (rO hl i h hi hh) ⟨rfl, rfl⟩ ?_ rfl ?_; (focus first | rfl | (simp only [go_sem]; done))) | (refine hZ (rO hl i h hi hh) ⟨rfl, rfl⟩ ?_ rfl ?_; (focus first | rfl | (simp only [go_sem]; done)))
 clear hi hh; rintro ⟨d, i, h⟩ ⟨hd, hi, hh⟩; simp only at hd hi hh; simp only [go_sem]
 obtain ⟨hd, hpos⟩ := hd
 have hd6 := a6F (n := 6) hd (by decide)
 have hlen := hd.hi
 refine aD ?_
 first | (refine aU (aH hl (d.length : Int) (by omega) (by omega) i h hi hh) ⟨rfl, rfl⟩ ?_ rfl ?_; (focus first | rfl | (simp only [go_sem]; done))) | (refine hZ (aH hl (d.length : Int) (by omega) (by omega) i h hi hh) ⟨rfl, rfl⟩ ?_ rfl ?_; (focus first | rfl | (simp only [go_sem]; done)))
 clear hi hh; rintro ⟨x, i, h⟩ ⟨hx, hi, hh⟩; simp only at hx hi hh; simp only [go_sem]
 obtain ⟨k, rfl⟩ := Int.eq_ofNat_of_zero_le hx.1
 have hk : k < d.length := by omega
 have hkn := hd.nm d[k] (List.getElem_mem hk)
 have hkq := hd.qy d[k] (List.getElem_mem hk)
 refine aD ?_
 first | (refine aU (aH hl 10 (by decide) (by decide) i h hi hh) ⟨rfl, rfl⟩ ?_ rfl ?_; (focus first | rfl | (simp only [go_sem]; done))) | (refine hZ (aH hl 10 (by decide) (by decide) i h hi hh) ⟨rfl, rfl⟩ ?_ rfl ?_; (focus first | rfl | (simp only [go_sem]; done)))
 clear hi hh; rintro ⟨c, i, h⟩ ⟨hc, hi, hh⟩; simp only at hc hi hh; simp only [go_sem]
 have h5 : c = 0 ∨ c = 1 ∨ c = 2 ∨ c = 3 ∨ (¬ c = 0 ∧ ¬ c = 1 ∧ ¬ c = 2 ∧ ¬ c = 3) := by omega
 rcases h5 with rfl | rfl | rfl | rfl | ⟨k0, k1, k2, k3⟩
 ·have q0 := @hk; refine iW ?_
  first | (refine aU (cK hl nmY (by decide) (by decide) i h hi hh) ⟨rfl, rfl⟩ ?_ rfl ?_; (focus first | rfl | (simp only [go_sem]; done))) | (refine hZ (cK hl nmY (by decide) (by decide) i h hi hh) ⟨rfl, rfl⟩ ?_ rfl ?_; (focus first | rfl | (simp only [go_sem]; done)))
  clear hi hh; rintro ⟨y, i, h⟩ ⟨hy, hi, hh⟩; simp only at hy hi hh; simp only [go_sem]
  have hy2 := (by decide +kernel : ∀ n ∈ nmY, n.size ≤ 7) y hy
  have q0 := @hk; refine iW ?_
  first | refine dW (Sees.frz 1 rfl) ?_
  simp only [go_sem]
  exact aJ (d.set k ⟨y, d[k].fQuery⟩, i, h) ⟨⟨_, rfl, by simp only [go_sem, List.map_set, List.map_append, List.map_cons, List.map_nil]; try rfl⟩, trivial⟩ ⟨(show dirsD 6 _ from a3H hd6 k hy2 hkq), ⟨hi, hh⟩⟩ (by simp only [go_sem])
 ·have q0 := @hk; refine iW ?_
  first | (refine aU (a3U hl i h hi hh) ⟨rfl, rfl⟩ ?_ rfl ?_; (focus first | rfl | (simp only [go_sem]; done))) | (refine hZ (a3U hl i h hi hh) ⟨rfl, rfl⟩ ?_ rfl ?_; (focus first | rfl | (simp only [go_sem]; done)))
  clear hi hh; rintro ⟨y, i, h⟩ ⟨hy, hi, hh⟩; simp only at hy hi hh; simp only [go_sem]
  have q0 := @hk; refine iW ?_
  first | refine dW (Sees.frz 1 rfl) ?_
  simp only [go_sem]
  exact aJ (d.set k ⟨d[k].fName, y⟩, i, h) ⟨⟨_, rfl, by simp only [go_sem, List.map_set, List.map_append, List.map_cons, List.map_nil]; try rfl⟩, trivial⟩ ⟨(show dirsD 6 _ from a3H hd6 k hkn hy), ⟨hi, hh⟩⟩ (by simp only [go_sem])
 ·refine aD ?_
  refine dB (α := List TDir × Nat × Int) (fun x => [(3, .o (.s 1)), (5, .o .u), (6, .o .u), (8, .o .u)]) (fun x => [(0, .pin b 120 [.sl (l.map uN), iv x.2.1, iv x.2.2]), (1, .row 90 2 (x.1.map eP) true)]) (fun x => (dirsD 6 x.1 ∧ 0 < x.1.length) ∧ (x.2.1 ≤ l.length ∧ inR .i64 x.2.2)) (fun x => 7 - x.1.length) (d, i, h) (fun _ => ?_) ?_ ?_ (fun y hy => ?_)
  ·simp only [go_sem]
  ·simp only [go_sem]; simp
  ·exact ⟨⟨hd6, hpos⟩, hi, hh⟩
  ·clear hi hh hkn hkq hk hlen hpos hd hd6 hx hc
   obtain ⟨d, i, h⟩ := y
   obtain ⟨⟨hd, hpos⟩, hi, hh⟩ := hy
   simp only at hd hpos hi hh
   simp only [go_sem]
   refine aD ?_
   first | (refine aU (aH hl 2 (by decide) (by decide) i h hi hh) ⟨rfl, rfl⟩ ?_ rfl ?_; (focus first | rfl | (simp only [go_sem]; done))) | (refine hZ (aH hl 2 (by decide) (by decide) i h hi hh) ⟨rfl, rfl⟩ ?_ rfl ?_; (focus first | rfl | (simp only [go_sem]; done)))
   clear hi hh; rintro ⟨z, i, h⟩ ⟨hz, hi, hh⟩; simp only at hz hi hh; simp only [go_sem]
   refine aD ?_
   refine cnd rfl (fun hlt => ?_) (fun hlt => ?_)
   ·simp only [decide_eq_true_eq] at hlt
    have hq1 : d.length + 1 ≤ 140737488355328 := by omega
    have hq2 : (d.length + 1) * 40 ≤ 140737488355328 := by omega
    have r1 : ∀ (a b c e f g : List D), eO [a, b, c, e, f, g] 1 = b := fun _ _ _ _ _ _ => rfl
    have r2 : ∀ (a b c e f g : List D), eO [a, b, c, e, f, g] 2 = c := fun _ _ _ _ _ _ => rfl
    have r3 : ∀ (a b c e f g : List D), eO [a, b, c, e, f, g] 3 = e := fun _ _ _ _ _ _ => rfl
    have r4 : ∀ (a b c e f g : List D), eO [a, b, c, e, f, g] 4 = f := fun _ _ _ _ _ _ => rfl
    have r5 : ∀ (a b c e f g : List D), eO [a, b, c, e, f, g] 5 = g := fun _ _ _ _ _ _ => rfl
    have rs : ∀ (a : D), sub [a] 0 1 = some [a] := fun _ => rfl
    have h15 : d.length = 1 ∨ d.length = 2 ∨ d.length = 3 ∨ d.length = 4 ∨ d.length = 5 := by omega
    clear hlt hz
    rcases h15 with hdl | hdl | hdl | hdl | hdl
    ·have qH := aI @hdl (aI @hq1 (aI @hq2 (aI @r1 @rs))); repeat' (with_reducible first | refine nY ?_ | (refine mX ?_; try simp only [go_sem, qH]) | refine kD ?_ | (apply rF [1,7,9,10,11] [11] [0,2,3,6] [0,2,3,6] ((.c 1 [4,5] [0,2,3,4,5,6] (.c 7 [8] [0,2,3,4,5,8] (.c 9 [] [0] (.c 10 [] [] (.c 11 [] [] .n .n) .n) .n) .n) (.c 7 [] [0,2,3] (.c 1 [4,5,8] [0,2,3,4,5,8] (.c 9 [] [0] (.c 10 [] [] (.c 11 [] [] .n .n) .n) .n) .n) .n))) (by simp only [go_sem]; rfl) (by simp only [go_sem]; rfl) (by simp only [go_sem]; rfl) (by decide +kernel); (focus simp only [go_sem]; done)) | exact bA | refine aM (uX ?_) ?_ | refine aN (aX ?_) ?_ | refine aP (aX ?_) ?_ | exact bD | exact oH | exact uB | refine rD ?_ | refine aO ?_ | fail)
     all_goals
      skip
      first | (refine aU (bC hl i h hi hh) ⟨rfl, rfl⟩ ?_ rfl ?_; (focus first | rfl | (simp only [go_sem]; done))) | (refine hZ (bC hl i h hi hh) ⟨rfl, rfl⟩ ?_ rfl ?_; (focus first | rfl | (simp only [go_sem]; done)))
      clear hi hh; rintro ⟨q, i, h⟩ ⟨hq, hi, hh⟩; simp only at hq hi hh; simp only [go_sem]
      have qH := aI @hdl (aI @hq1 (aI @hq2 (aI @r1 @rs))); repeat' (with_reducible first | refine nY ?_ | (refine mX ?_; try simp only [go_sem, qH]) | refine kD ?_ | exact bA | refine aM (uX ?_) ?_ | refine aN (aX ?_) ?_ | refine aP (aX ?_) ?_ | exact uB | refine rD ?_ | refine aO ?_ | fail)
      refine aQ (d ++ [⟨⟨#[100, 98]⟩, q⟩], i, h) ?_ ?_ ?_
      ·simp only [go_sem, List.map_append, List.map_cons, List.map_nil]; simp
      ·exact ⟨⟨iO hd (by omega) (by simp only; decide) (mG hq (by decide)), by simp⟩, hi, hh⟩
      ·simp only [List.length_append, List.length_cons, List.length_nil]; omega
    ·have qH := aI @hdl (aI @hq1 (aI @hq2 (aI @r2 @rs))); repeat' (with_reducible first | refine nY ?_ | (refine mX ?_; try simp only [go_sem, qH]) | refine kD ?_ | (apply rF [1,7,9,10,11] [11] [0,2,3,6] [0,2,3,6] ((.c 1 [4,5] [0,2,3,4,5,6] (.c 7 [8] [0,2,3,4,5,8] (.c 9 [] [0] (.c 10 [] [] (.c 11 [] [] .n .n) .n) .n) .n) (.c 7 [] [0,2,3] (.c 1 [4,5,8] [0,2,3,4,5,8] (.c 9 [] [0] (.c 10 [] [] (.c 11 [] [] .n .n) .n) .n) .n) .n))) (by simp only [go_sem]; rfl) (by simp only [go_sem]; rfl) (by simp only [go_sem]; rfl) (by decide +kernel); (focus simp only [go_sem]; done)) | exact bA | refine aM (uX ?_) ?_ | refine aN (aX ?_) ?_ | refine aP (aX ?_) ?_ | exact bD | exact oH | exact uB | refine rD ?_ | refine aO ?_ | fail)
     all_goals
      skip
      first | (refine aU (bC hl i h hi hh) ⟨rfl, rfl⟩ ?_ rfl ?_; (focus first | rfl | (simp only [go_sem]; done))) | (refine hZ (bC hl i h hi hh) ⟨rfl, rfl⟩ ?_ rfl ?_; (focus first | rfl | (simp only [go_sem]; done)))
      clear hi hh; rintro ⟨q, i, h⟩ ⟨hq, hi, hh⟩; simp only at hq hi hh; simp only [go_sem]
      have qH := aI @hdl (aI @hq1 (aI @hq2 (aI @r2 @rs))); repeat' (with_reducible first | refine nY ?_ | (refine mX ?_; try simp only [go_sem, qH]) | refine kD ?_ | exact bA | refine aM (uX ?_) ?_ | refine aN (aX ?_) ?_ | refine aP (aX ?_) ?_ | exact uB | refine rD ?_ | refine aO ?_ | fail)
      refine aQ (d ++ [⟨⟨#[100, 99]⟩, q⟩], i, h) ?_ ?_ ?_
      ·simp only [go_sem, List.map_append, List.map_cons, List.map_nil]; simp
      ·exact ⟨⟨iO hd (by omega) (by simp only; decide) (mG hq (by decide)), by simp⟩, hi, hh⟩
      ·simp only [List.length_append, List.length_cons, List.length_nil]; omega
    ·have qH := aI @hdl (aI @hq1 (aI @hq2 (aI @r3 @rs))); repeat' (with_reducible first | refine nY ?_ | (refine mX ?_; try simp only [go_sem, qH]) | refine kD ?_ | (apply rF [1,7,9,10,11] [11] [0,2,3,6] [0,2,3,6] ((.c 1 [4,5] [0,2,3,4,5,6] (.c 7 [8] [0,2,3,4,5,8] (.c 9 [] [0] (.c 10 [] [] (.c 11 [] [] .n .n) .n) .n) .n) (.c 7 [] [0,2,3] (.c 1 [4,5,8] [0,2,3,4,5,8] (.c 9 [] [0] (.c 10 [] [] (.c 11 [] [] .n .n) .n) .n) .n) .n))) (by simp only [go_sem]; rfl) (by simp only [go_sem]; rfl) (by simp only [go_sem]; rfl) (by decide +kernel); (focus simp only [go_sem]; done)) | exact bA | refine aM (uX ?_) ?_ | refine aN (aX ?_) ?_ | refine aP (aX ?_) ?_ | exact bD | exact oH | exact uB | refine rD ?_ | refine aO ?_ | fail)
     all_goals
      skip
      first | (refine aU (bC hl i h hi hh) ⟨rfl, rfl⟩ ?_ rfl ?_; (focus first | rfl | (simp only [go_sem]; done))) | (refine hZ (bC hl i h hi hh) ⟨rfl, rfl⟩ ?_ rfl ?_; (focus first | rfl | (simp only [go_sem]; done)))
      clear hi hh; rintro ⟨q, i, h⟩ ⟨hq, hi, hh⟩; simp only at hq hi hh; simp only [go_sem]
      have qH := aI @hdl (aI @hq1 (aI @hq2 (aI @r3 @rs))); repeat' (with_reducible first | refine nY ?_ | (refine mX ?_; try simp only [go_sem, qH]) | refine kD ?_ | exact bA | refine aM (uX ?_) ?_ | refine aN (aX ?_) ?_ | refine aP (aX ?_) ?_ | exact uB | refine rD ?_ | refine aO ?_ | fail)
      refine aQ (d ++ [⟨⟨#[100, 100]⟩, q⟩], i, h) ?_ ?_ ?_
      ·simp only [go_sem, List.map_append, List.map_cons, List.map_nil]; simp
      ·exact ⟨⟨iO hd (by omega) (by simp only; decide) (mG hq (by decide)), by simp⟩, hi, hh⟩
      ·simp only [List.length_append, List.length_cons, List.length_nil]; omega
    ·have qH := aI @hdl (aI @hq1 (aI @hq2 (aI @r4 @rs))); repeat' (with_reducible first | refine nY ?_ | (refine mX ?_; try simp only [go_sem, qH]) | refine kD ?_ | (apply rF [1,7,9,10,11] [11] [0,2,3,6] [0,2,3,6] ((.c 1 [4,5] [0,2,3,4,5,6] (.c 7 [8] [0,2,3,4,5,8] (.c 9 [] [0] (.c 10 [] [] (.c 11 [] [] .n .n) .n) .n) .n) (.c 7 [] [0,2,3] (.c 1 [4,5,8] [0,2,3,4,5,8] (.c 9 [] [0] (.c 10 [] [] (.c 11 [] [] .n .n) .n) .n) .n) .n))) (by simp only [go_sem]; rfl) (by simp only [go_sem]; rfl) (by simp only [go_sem]; rfl) (by decide +kernel); (focus simp only [go_sem]; done)) | exact bA | refine aM (uX ?_) ?_ | refine aN (aX ?_) ?_ | refine aP (aX ?_) ?_ | exact bD | exact oH | exact uB | refine rD ?_ | refine aO ?_ | fail)
     all_goals
      skip
      first | (refine aU (bC hl i h hi hh) ⟨rfl, rfl⟩ ?_ rfl ?_; (focus first | rfl | (simp only [go_sem]; done))) | (refine hZ (bC hl i h hi hh) ⟨rfl, rfl⟩ ?_ rfl ?_; (focus first | rfl | (simp only [go_sem]; done)))
      clear hi hh; rintro ⟨q, i, h⟩ ⟨hq, hi, hh⟩; simp only at hq hi hh; simp only [go_sem]
      have qH := aI @hdl (aI @hq1 (aI @hq2 (aI @r4 @rs))); repeat' (with_reducible first | refine nY ?_ | (refine mX ?_; try simp only [go_sem, qH]) | refine kD ?_ | exact bA | refine aM (uX ?_) ?_ | refine aN (aX ?_) ?_ | refine aP (aX ?_) ?_ | exact uB | refine rD ?_ | refine aO ?_ | fail)
      refine aQ (d ++ [⟨⟨#[100, 101]⟩, q⟩], i, h) ?_ ?_ ?_
      ·simp only [go_sem, List.map_append, List.map_cons, List.map_nil]; simp
      ·exact ⟨⟨iO hd (by omega) (by simp only; decide) (mG hq (by decide)), by simp⟩, hi, hh⟩
      ·simp only [List.length_append, List.length_cons, List.length_nil]; omega
    ·have qH := aI @hdl (aI @hq1 (aI @hq2 (aI @r5 @rs))); repeat' (with_reducible first | refine nY ?_ | (refine mX ?_; try simp only [go_sem, qH]) | refine kD ?_ | (apply rF [1,7,9,10,11] [11] [0,2,3,6] [0,2,3,6] ((.c 1 [4,5] [0,2,3,4,5,6] (.c 7 [8] [0,2,3,4,5,8] (.c 9 [] [0] (.c 10 [] [] (.c 11 [] [] .n .n) .n) .n) .n) (.c 7 [] [0,2,3] (.c 1 [4,5,8] [0,2,3,4,5,8] (.c 9 [] [0] (.c 10 [] [] (.c 11 [] [] .n .n) .n) .n) .n) .n))) (by simp only [go_sem]; rfl) (by simp only [go_sem]; rfl) (by simp only [go_sem]; rfl) (by decide +kernel); (focus simp only [go_sem]; done)) | exact bA | refine aM (uX ?_) ?_ | refine aN (aX ?_) ?_ | refine aP (aX ?_) ?_ | exact bD | exact oH | exact uB | refine rD ?_ | refine aO ?_ | fail)
     all_goals
      skip
      first | (refine aU (bC hl i h hi hh) ⟨rfl, rfl⟩ ?_ rfl ?_; (focus first | rfl | (simp only [go_sem]; done))) | (refine hZ (bC hl i h hi hh) ⟨rfl, rfl⟩ ?_ rfl ?_; (focus first | rfl | (simp only [go_sem]; done)))
      clear hi hh; rintro ⟨q, i, h⟩ ⟨hq, hi, hh⟩; simp only at hq hi hh; simp only [go_sem]
      have qH := aI @hdl (aI @hq1 (aI @hq2 (aI @r5 @rs))); repeat' (with_reducible first | refine nY ?_ | (refine mX ?_; try simp only [go_sem, qH]) | refine kD ?_ | exact bA | refine aM (uX ?_) ?_ | refine aN (aX ?_) ?_ | refine aP (aX ?_) ?_ | exact uB | refine rD ?_ | refine aO ?_ | fail)
      refine aQ (d ++ [⟨⟨#[100, 102]⟩, q⟩], i, h) ?_ ?_ ?_
      ·simp only [go_sem, List.map_append, List.map_cons, List.map_nil]; simp
      ·exact ⟨⟨iO hd (by omega) (by simp only; decide) (mG hq (by decide)), by simp⟩, hi, hh⟩
      ·simp only [List.length_append, List.length_cons, List.length_nil]; omega
   ·refine aD ?_
    first | refine dW (Sees.frz 1 rfl) ?_
    simp only [go_sem]
    exact aJ (d, i, h) ⟨⟨_, rfl, by simp only [go_sem, List.map_set, List.map_append, List.map_cons, List.map_nil]; try rfl⟩, trivial⟩ ⟨(show dirsD 6 _ from hd), ⟨hi, hh⟩⟩ (by simp only [go_sem])
 ·refine aD ?_
  exact aJ ([], i, h) ⟨⟨_, rfl, by simp only [go_sem, List.map_nil]⟩, trivial⟩ ⟨(show dirsD 6 _ from a0q 6), ⟨hi, hh⟩⟩ (by simp only [go_sem])
 ·have q0 := @k0; have q1 := @k1; have q2 := @k2; have q3 := @k3; have q4 := @decide_false; refine vW ?_
  first | refine dW (Sees.frz 1 rfl) ?_
  simp only [go_sem]
  exact aJ (d, i, h) ⟨⟨_, rfl, by simp only [go_sem, List.map_set, List.map_append, List.map_cons, List.map_nil]; try rfl⟩, trivial⟩ ⟨(show dirsD 6 _ from hd6), ⟨hi, hh⟩⟩ (by simp only [go_sem])
theorem b5B (l : List TDir) : ∀ r ∈ l.map eP, r.length = 2 := by intro r hr; obtain ⟨x, _, rfl⟩ := List.mem_map.1 hr; rfl
def b2t : List TDir := [⟨⟨#[100, 97]⟩, [⟨1, 0, 0, ⟨#[]⟩, ⟨0, 0, ⟨#[]⟩⟩⟩]⟩]
theorem b2u : qD b2t = true := by
 unfold qD
 rw [if_pos (by decide +kernel)]
 refine a0p (L := [0]) ⟨rfl, fun i k w h => ?_⟩
 obtain ⟨x, hx, h⟩ := (a2h _ i k w).1 h
 have h1 : cB [(⟨1, 0, 0, ⟨#[]⟩, ⟨0, 0, ⟨#[]⟩⟩⟩ : TNode)] false = [] := by decide +kernel
 have h2 : cB [(⟨1, 0, 0, ⟨#[]⟩, ⟨0, 0, ⟨#[]⟩⟩⟩ : TNode)] true = [] := by decide +kernel
 have hq : x.fQuery = [⟨1, 0, 0, ⟨#[]⟩, ⟨0, 0, ⟨#[]⟩⟩⟩] := by
  cases i with
  | zero => simp [b2t] at hx; rw [← hx]
  | succ i => simp [b2t] at hx
 rw [hq, h1, h2] at h
 rcases h with ⟨_, nm, hm, _⟩ | ⟨_, nm, hm, _⟩ <;> simp at hm
theorem a2r {l : List Int} (hl : iM l) : Drw l 126 [] (fun d : List TDir => dirsD 6 d ∧ (0 < d.length ∧ qD d = true)) (fun d => .o (.d (.sl (d.map eP)))) := by
 intro i h hi hh; refine oD Tryz.func126 rfl Tryz.call126 rfl (fun C b => ?_); simp only [go_sem, Tryz.ntmps126]
 refine aD ?_
 first | (refine aU (rO hl i h hi hh) ⟨rfl, rfl⟩ ?_ rfl ?_; (focus first | rfl | (simp only [go_sem]; done))) | (refine hZ (rO hl i h hi hh) ⟨rfl, rfl⟩ ?_ rfl ?_; (focus first | rfl | (simp only [go_sem]; done)))
 clear hi hh; rintro ⟨d, i, h⟩ ⟨hd, hi, hh⟩; simp only at hd hi hh; simp only [go_sem]
 have hd4 := hd.1
 clear hd
 refine aD ?_
 refine a9i 3 1 rfl rfl ?_
 simp only [go_sem]
 refine dB (α := List TDir) (fun x => [(3, .o (.d (.sl (x.map eP)))), (5, .o .u)]) (fun _ => []) (fun x => dirsD 4 x) (fun x => x.length) d (fun _ => ?_) ?_ ?_ (fun x hx => ?_)
 ·simp only [go_sem]
 ·simp only [go_sem]; simp
 ·exact hd4
 ·clear hd4
  have hst := kN x (by have := a9o hx (by decide); omega)
  by_cases h0 : x = []
  ·subst h0
   have z0 : decide ((0 : Int) < ((0 : Nat) : Int)) = false := rfl
   have z1 : decide (((0 : Nat) : Int) = 0) = true := rfl
   simp only [go_sem]
   repeat' (with_reducible first | refine nY ?_ | (refine mX ?_; try simp only [go_sem, List.map_nil, List.length_nil, z0, z1]) | refine kO ?_ (by decide) | refine b4U (by kernel_rfl) ?_ | (refine And.intro ?_ ?_; focus omega))
   first | refine dW (Sees.frz 2 rfl) ?_ | refine dW (Sees.frz 3 rfl) ?_ | refine dW (Sees.frz 4 rfl) ?_
   simp only [go_sem]
   exact aJ ([⟨⟨#[100, 97]⟩, [⟨1, 0, 0, ⟨#[]⟩, ⟨0, 0, ⟨#[]⟩⟩⟩]⟩], i, h) ⟨⟨_, rfl, by simp only [go_sem, List.map_set, List.map_append, List.map_cons, List.map_nil]; try rfl⟩, trivial⟩ ⟨(show dirsD 6 [⟨⟨#[100, 97]⟩, [⟨1, 0, 0, ⟨#[]⟩, ⟨0, 0, ⟨#[]⟩⟩⟩]⟩] ∧ (0 < ([⟨⟨#[100, 97]⟩, [⟨1, 0, 0, ⟨#[]⟩, ⟨0, 0, ⟨#[]⟩⟩⟩]⟩] : List TDir).length ∧ qD [⟨⟨#[100, 97]⟩, [⟨1, 0, 0, ⟨#[]⟩, ⟨0, 0, ⟨#[]⟩⟩⟩]⟩] = true) from ⟨iO (a0q 6) (by decide) (by simp only; decide) ⟨by decide, fun n hn => by simp only [List.mem_singleton] at hn; subst hn; exact gM (inS (by decide)) in0 in0 (Nat.zero_le _) in0 in0 (Nat.zero_le _)⟩, by decide, b2u⟩), ⟨hi, hh⟩⟩ (by simp only [go_sem])
  ·have hp : 0 < x.length := List.length_pos_iff.2 h0
   have hgi : ((0 : Int) < (x.length : Int)) = True := by simp; omega
   have hgz : ((x.length : Int) = 0) = False := by simp; omega
   cases hr : qD x
   ·rw [hr] at hst
    have hm1 : (x.length : Int) - 1 = ((x.length - 1 : Nat) : Int) := by omega
    have hm2 : x.length - 1 ≤ x.length := by omega
    have hx4 := hx.hi
    simp only [go_sem]
    have qH := aI @hgi (aI @hgz (aI @hm1 (aI @hm2 @decide_true))); repeat' (with_reducible first | refine nY ?_ | (refine mX ?_; try simp only [go_sem, qH]) | refine kD ?_ | refine rD ?_ | refine And.intro (b5B _) ?_ | refine cP hst ?_ | refine aO ?_ | fail)
    refine aQ (x.take (x.length - 1)) ?_ ?_ ?_
    ·simp only [go_sem, List.map_take]; simp
    ·exact a8b hx _
    ·simp; omega
   ·rw [hr] at hst
    simp only [go_sem]
    have q0 := @hgi; have q1 := @hgz; have q2 := @decide_true; have q3 := @decide_false; refine a0X hst ?_
    exact aJ (x, i, h) ⟨⟨_, rfl, by simp only [go_sem]⟩, trivial⟩ ⟨(show dirsD 6 x ∧ (0 < x.length ∧ qD x = true) from ⟨a6F hx (by decide), hp, hr⟩), ⟨hi, hh⟩⟩ (by simp only [go_sem])
end Go.Proofs.YtgpoopjfkplilaaGreatDoor
end
