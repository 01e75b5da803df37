/- Joined texts. -/
import Derived.Test.YteaaopodnbjpoaaGreatZ19
import Derived.Test.YteaaopodnbjpoaaGreatZ16
import Derived.Test.YteaaopodnbjpoaaGreatZ14
import Derived.Test.YteaaopodnbjpoaaGreatZ17
import Derived.Test.YteaaopodnbjpoaaGreatZ10
import Derived.Test.YteaaopodnbjpoaaGreatZ07
import Derived.Test.YteaaopodnbjpoaaGreatZ12
import Derived.Test.YteaaopodnbjpoaaGreatZ13
import Derived.Test.YteaaopodnbjpoaaGreatZ08
import Derived.Test.YteaaopodnbjpoaaGreatZ06
import Derived.Shelf.RegionOpenPlain
import Derived.WalkKit
import Derived.Deep.Draws
import Derived.Lib.Walk
import Derived.Lib.SliceRun
import Derived.Lib.AppendZeros
import Derived.Laws.Externs
import Derived.Laws.NewBlocks
set_option linter.all false
section
set_option maxRecDepth 100000
set_option maxHeartbeats 4000000
namespace Go.Proofs.YteaaopodnbjpoaaGreat
open Go Go.Sx Go.RowKit Go.Proofs
def okU (s : TStore) (u : Int) : Bool := dC s && inB u 0 2
noncomputable def evU (s : TStore) (d : List TDir) (u : Int) : List TResult := if okU s u then (evX (vis s u) d [] (dirNs d)).1 else []
noncomputable def a6a (s : TStore) (d : List TDir) (u : Int) : Bool := okU s u && evB (vis s u) d
theorem xR (s : TStore) (u : Int) (h : aL s ≤ 4300000) : FnC Tryz.prog 139 [cB s, oi u] (cB (vis s u)) := (b1d s u h).pu (by simp only [go_sem, and_self])
theorem a2J (s : TStore) (u : Int) (h : aL s ≤ 4300000) : FnC Tryz.prog 132 [cB s, oi u] (cB (vis s u)) := (b1e s u h).pu (by simp only [go_sem, and_self])
theorem b0Y (s : TStore) (d : List TDir) (u : Int) (hs : aL s ≤ 4300000) (hd : aY d ≤ 4300000) : FnC Tryz.prog 140 [cB s, .o (.d (.sl (d.map aS))), oi u] (.t [(false, [.w 141 2 ((evU s d u).map aH)]), (false, [.d (bv (a6a s d u))])]) := by
 have hw := b2s s u
 refine ent Tryz.func140 rfl Tryz.call140 rfl (fun C => ?_); simp only [go_sem, st0, Tryz.ntmps140]
 cases h1 : dC s
 ·have e : okU s u = false := by simp [okU, h1]
  have q0 := @h1; refine eZ (fU s hs) ?_
  exact aA ⟨⟨_, rfl, by simp only [go_sem, evU, a6a, e, Bool.false_and, Bool.false_eq_true, if_false, List.map_nil]; try simp⟩, by simp [aU]⟩
 cases h2 : inB u 0 2
 ·have e : okU s u = false := by simp [okU, h2]
  have q0 := @h1; have q1 := @h2; refine sI (fU s hs) (jS u) ?_
  exact aA ⟨⟨_, rfl, by simp only [go_sem, evU, a6a, e, Bool.false_and, Bool.false_eq_true, if_false, List.map_nil]; try simp⟩, by simp [aU]⟩
 ·have e : okU s u = true := by simp [okU, h1, h2]
  have q0 := @h1; have q1 := @h2; refine b3x (fU s hs) (jS u) (xR s u hs) (a3a (vis s u) d (by omega) hd) ?_
  exact aA ⟨⟨_, rfl, by simp only [go_sem, evU, a6a, e, Bool.true_and, if_true]; try simp⟩, by simp [aU]⟩
theorem b0Z (s : TStore) (d : List TDir) (u : Int) (hs : aL s ≤ 4300000) (hd : aY d ≤ 4300000) : FnC Tryz.prog 131 [cB s, .o (.d (.sl (d.map aS))), oi u] (.t [(false, [.w 141 2 ((evU s d u).map aH)]), (false, [.d (bv (a6a s d u))])]) := by
 have hw := b2s s u
 refine ent Tryz.func131 rfl Tryz.call131 rfl (fun C => ?_); simp only [go_sem, st0, Tryz.ntmps131]
 cases h2 : inB u 0 2
 ·have e : okU s u = false := by simp [okU, h2]
  have q0 := @h2; refine a4n (dP s hs) (bS u 0 2) ?_
  exact aA ⟨⟨_, rfl, by simp only [go_sem, evU, a6a, e, Bool.false_and, Bool.false_eq_true, if_false, List.map_nil]; try simp⟩, by simp [aU]⟩
 cases h1 : dC s
 ·have e : okU s u = false := by simp [okU, h1]
  have q0 := @h1; have q1 := @h2; refine sI (dP s hs) (bS u 0 2) ?_
  exact aA ⟨⟨_, rfl, by simp only [go_sem, evU, a6a, e, Bool.false_and, Bool.false_eq_true, if_false, List.map_nil]; try simp⟩, by simp [aU]⟩
 ·have e : okU s u = true := by simp [okU, h1, h2]
  have q0 := @h1; have q1 := @h2; refine b3x (dP s hs) (bS u 0 2) (a2J s u hs) (a3b (vis s u) d (by omega) hd) ?_
  exact aA ⟨⟨_, rfl, by simp only [go_sem, evU, a6a, e, Bool.true_and, if_true]; try simp⟩, by simp [aU]⟩
theorem xS (s : TStore) (d : List TDir) (u : Int) (hs : aL s ≤ 4300000) (hd : aY d ≤ 4300000) : FnC Tryz.prog 140 [cB s, .o (.d (.sl (d.map aS))), oi u] (.t [(false, [.d (.sl ((evU s d u).map aH))]), (false, [.d (bv (a6a s d u))])]) := (b0Y s d u hs hd).pu (by simp only [go_sem, and_self])
theorem oM (s : TStore) (d : List TDir) (u : Int) (hs : aL s ≤ 4300000) (hd : aY d ≤ 4300000) : FnC Tryz.prog 131 [cB s, .o (.d (.sl (d.map aS))), oi u] (.t [(false, [.d (.sl ((evU s d u).map aH))]), (false, [.d (bv (a6a s d u))])]) := (b0Z s d u hs hd).pu (by simp only [go_sem, and_self])
theorem a9m (s : TStore) (d : List TDir) (u : Int) : aG (evU s d u) ≤ 95 := by
 unfold evU
 split
 ·exact b1H _ _
 ·simp [aG, wsum]
theorem a4q (n : ByteArray) : ∀ r : List TResult, (aR n r).length ≤ aG r
 | [] => by simp [aR]
 | x :: r => by
  have := a4q n r
  have e : aG (x :: r) = aG r + 1 + wResult x := by unfold aG; simp only [List.length_cons, wsum]; omega
  unfold aR
  split
  ·have : x.fIDs.length ≤ wResult x := by unfold wResult; omega
   omega
  ·omega
noncomputable def a9n (s : TStore) (d : List TDir) (u : Int) (n : ByteArray) : List Int := aR n (evU s d u)
theorem b5j (s : TStore) (d : List TDir) (u : Int) (n : ByteArray) : (a9n s d u n).length ≤ 95 := Nat.le_trans (a4q n _) (a9m s d u)
theorem b1a (s : TStore) (d : List TDir) (u : Int) (n : ByteArray) (hs : aL s ≤ 4300000) (hd : aY d ≤ 4300000) : FnC Tryz.prog 214 [cB s, .o (.d (.sl (d.map aS))), oi u, os n] (.o (.d (.sl ((a9n s d u n).map eQ)))) := by
 have hw := a9m s d u
 refine ent Tryz.func214 rfl Tryz.call214 rfl (fun C => ?_); simp only [go_sem, st0, Tryz.ntmps214]
 refine a7J (xS s d u hs hd) (mU (evU s d u) n (by omega)) ?_
 exact aA ⟨⟨_, rfl, by simp only [go_sem, a9n]⟩, trivial⟩
theorem b1b (s : TStore) (d : List TDir) (u : Int) (n : ByteArray) (hs : aL s ≤ 4300000) (hd : aY d ≤ 4300000) : FnC Tryz.prog 206 [cB s, .o (.d (.sl (d.map aS))), oi u, os n] (.o (.d (.sl ((a9n s d u n).map eQ)))) := by
 have hw := a9m s d u
 refine ent Tryz.func206 rfl Tryz.call206 rfl (fun C => ?_); simp only [go_sem, st0, Tryz.ntmps206]
 refine a7J (oM s d u hs hd) (iY (evU s d u) n (by omega)) ?_
 exact aA ⟨⟨_, rfl, by simp only [go_sem, a9n]⟩, trivial⟩
noncomputable def isL (s : TStore) (d : List TDir) (u : Int) (n : ByteArray) (id : Int) : Bool := hasI (a9n s d u n) id
theorem vP (s : TStore) (d : List TDir) (u : Int) (n : ByteArray) (id : Int) (hs : aL s ≤ 4300000) (hd : aY d ≤ 4300000) : FnC Tryz.prog 144 [cB s, .o (.d (.sl (d.map aS))), oi u, os n, oi id] (ob (isL s d u n id)) := by
 have hw := b5j s d u n
 refine ent Tryz.func144 rfl Tryz.call144 rfl (fun C => ?_); simp only [go_sem, st0, Tryz.ntmps144]
 refine a7J (b1a s d u n hs hd) (jX (a9n s d u n) id (by omega)) ?_
 exact aA ⟨⟨_, rfl, by simp only [go_sem, isL]⟩, trivial⟩
theorem vS (s : TStore) (d : List TDir) (u : Int) (n : ByteArray) (id : Int) (hs : aL s ≤ 4300000) (hd : aY d ≤ 4300000) : FnC Tryz.prog 136 [cB s, .o (.d (.sl (d.map aS))), oi u, os n, oi id] (ob (isL s d u n id)) := by
 have hw := b5j s d u n
 refine ent Tryz.func136 rfl Tryz.call136 rfl (fun C => ?_); simp only [go_sem, st0, Tryz.ntmps136]
 refine a7J (b1b s d u n hs hd) (fO (a9n s d u n) id (by omega)) ?_
 exact aA ⟨⟨_, rfl, by simp only [go_sem, isL]⟩, trivial⟩
def zD : TDir := ⟨⟨#[]⟩, []⟩
def iT (d : List TDir) (n : ByteArray) : TDir := if 0 ≤ placeD d n then d.getD (placeD d n).toNat zD else zD
def a6b (d : List TDir) (n : ByteArray) : Bool := decide (0 ≤ placeD d n)
theorem a4r {d : List TDir} {n : ByteArray} (h : placeD d n = -1) : iT d n = zD ∧ a6b d n = false := by unfold iT a6b; rw [h]; exact ⟨rfl, rfl⟩
theorem a2g {d : List TDir} {n : ByteArray} {p : Nat} (h : placeD d n = p) (hp : p < d.length) : iT d n = d[p] ∧ a6b d n = true := by unfold iT a6b; rw [h, if_pos (by omega)]; simp [hp]
theorem b2o (d : List TDir) (n : ByteArray) : wDir (iT d n) ≤ aY d := by
 rcases placeD_cases d n with h | ⟨p, h, hp⟩
 ·rw [(a4r h).1]; have e : wDir zD = 0 := rfl; omega
 ·rw [(a2g h hp).1]; have := bB wDir d hp; unfold aY; omega
theorem kR (d : List TDir) (n : ByteArray) (h : aY d ≤ 4300000) : FnC Tryz.prog 138 [.o (.d (.sl (d.map aS))), os n] (.t [(true, (a4J (iT d n)).cells), (false, [.d (bv (a6b d n))])]) := by
 have hl : d.length ≤ 4300000 := by unfold aY at h; omega
 have ha := a5h d n hl
 refine ent Tryz.func138 rfl Tryz.call138 rfl (fun C => ?_); simp only [go_sem, st0, Tryz.ntmps138]
 rcases placeD_cases d n with e | ⟨p, e, hp⟩
 ·obtain ⟨e1, e2⟩ := a4r e
  have hz : ¬ (0 : Int) ≤ -1 := by omega
  rw [e] at ha
  have q0 := @hz; have q1 := @decide_false; refine jZ ha ?_
  exact aA ⟨⟨_, rfl, by simp only [go_sem, e1, e2, zD, List.map_nil]; try simp⟩, by simp [aU]⟩
 ·obtain ⟨e1, e2⟩ := a2g e hp
  have hz : (0 : Int) ≤ (p : Int) := by omega
  have hq : d[p].fQuery.length ≤ 4300000 := by
   have h1 := bB wDir d hp
   have h2 : d[p].fQuery.length ≤ wDir d[p] := by unfold wDir bK; omega
   unfold aY at h; omega
  have hcp : FnC Tryz.prog 173 [a4J d[p]] (a4J d[p]) := (a9D d[p] hq).pu (by simp only [go_sem, and_self])
  rw [e] at ha
  have q0 := @hz; have q1 := @hp; have q2 := @decide_true; have q3 := @Int.toNat_natCast; refine a1a ha hcp ?_
  exact aA ⟨⟨_, rfl, by simp only [go_sem, e1, e2]; try simp⟩, by simp [aU]⟩
theorem a7L (d : List TDir) (n : ByteArray) (h : aY d ≤ 4300000) : FnC Tryz.prog 130 [.o (.d (.sl (d.map aS))), os n] (.t [(true, (b8C (iT d n)).cells), (false, [.d (bv (a6b d n))])]) := by
 have hl : d.length ≤ 4300000 := by unfold aY at h; omega
 have ha := kJ d n hl
 refine ent Tryz.func130 rfl Tryz.call130 rfl (fun C => ?_); simp only [go_sem, st0, Tryz.ntmps130]
 rcases placeD_cases d n with e | ⟨p, e, hp⟩
 ·obtain ⟨e1, e2⟩ := a4r e
  have hy : (-1 : Int) < 0 := by omega
  rw [e] at ha
  have q0 := @hy; have q1 := @decide_true; refine jZ ha ?_
  exact aA ⟨⟨_, rfl, by simp only [go_sem, e1, e2, zD, List.map_nil]; try simp⟩, by simp [aU]⟩
 ·obtain ⟨e1, e2⟩ := a2g e hp
  have hy : ¬ (p : Int) < 0 := by omega
  have hq : d[p].fQuery.length ≤ 4300000 := by
   have h1 := bB wDir d hp
   have h2 : d[p].fQuery.length ≤ wDir d[p] := by unfold wDir bK; omega
   unfold aY at h; omega
  rw [e] at ha
  have qH := aI @hy (aI @hp (aI @decide_false @Int.toNat_natCast)); repeat' (with_reducible first | refine nY ?_ | (refine mX ?_; try simp only [go_sem, qH]) | refine kD ?_ | (apply rE [5,11,13] [] [0,1,2,3,4,6,7,8,9,10] [0,1,2,3,4,6,7,8,9,10] ((.c 5 [] [0,1,2,3,4,6,7,8,9,10] (.c 11 [12] [0,1,2,3,4,12] (.c 13 [14] [14] .n .n) .n) .n)) (by simp only [go_sem]; rfl) (by simp only [go_sem]; rfl) (by simp only [go_sem]; rfl) (by decide +kernel); (focus simp only [go_sem]; done)) | exact bU | refine bF (uX ?_) ?_ | refine bG (aX ?_) ?_ | refine bH (aX ?_) ?_ | exact bE | exact oH | exact uB | refine rD ?_ | refine cP ha ?_ | refine aO ?_ | fail)
  exact aA ⟨⟨_, rfl, by simp only [go_sem, e1, e2]; try simp⟩, by simp [aU]⟩
theorem nW (d : List TDir) (n : ByteArray) (h : aY d ≤ 4300000) : FnC Tryz.prog 130 [.o (.d (.sl (d.map aS))), os n] (.t [(true, (a4J (iT d n)).cells), (false, [.d (bv (a6b d n))])]) := (a7L d n h).pu (by simp only [go_sem, and_self])
end Go.Proofs.YteaaopodnbjpoaaGreat
end
section
namespace Go.Proofs.YteaaopodnbjpoaaGreat
open Go Go.Sx Go.RowKit Go.Proofs Go.Sx.Clos
def eqD (s : ByteArray) (o : TDir) : Bool := decide (o.fName = s)
def gtD (s : ByteArray) (o : TDir) : Bool := !(gQ o.fName s || decide (o.fName = s))
def b7N (d : List TDir) (x : TDir) : List TDir := if bW (eqD x.fName) d < d.length then d.set (bW (eqD x.fName) d) x else eU (bW (gtD x.fName) d) x d
def b9F (d : List TDir) (x : TDir) : Bool := dR d && dR (b7N d x)
def c0L (d : List TDir) (x : TDir) : List TDir := if b9F d x then b7N d x else d
def c0H (x : TDir) (a : List TDir × Bool) (e : TDir) : List TDir × Bool :=
 let b := if !a.2 && !gQ e.fName x.fName then (a.1 ++ [x], true) else a
 (if e.fName = x.fName then b.1 else b.1 ++ [e], b.2)
def c0M (x : TDir) (a : List TDir × Bool) : List TDir := if a.2 then a.1 else a.1 ++ [x]
end Go.Proofs.YteaaopodnbjpoaaGreat
end
section
set_option maxRecDepth 100000
set_option maxHeartbeats 4000000
namespace Go.Proofs.YteaaopodnbjpoaaGreat
open Go Go.Sx Go.RowKit Go.Proofs
def uQ (a b : TEdit) : TEdit := if a.fOK then (if b.fOK then ⟨false, []⟩ else a) else (if b.fOK then b else ⟨false, []⟩)
def wt (q : List TNode) (f : TFile) (r : List TResult) : Nat → Nat → Bool → TEdit
 | 0, _, _ => ⟨false, []⟩
 | k + 1, i, b => match q[i]? with
  | none => ⟨false, []⟩
  | some n =>
   if mt q f r (k + 1) i = b then ⟨true, []⟩
   else if n.fOp = 3 then (if b then ⟨true, [⟨n.fName, n.fValue⟩]⟩ else ⟨false, []⟩)
   else if n.fOp = 2 then (if b then ⟨false, []⟩ else ⟨true, [⟨n.fName, ⟨0, 0, ⟨#[]⟩⟩⟩]⟩)
   else if n.fOp = 5 then wt q f r k n.fLeft.toNat (!b)
   else if n.fOp = 6 then (if b then iO (wt q f r k n.fLeft.toNat b) (wt q f r k n.fRight.toNat b) else uQ (wt q f r k n.fLeft.toNat b) (wt q f r k n.fRight.toNat b))
   else if n.fOp = 7 then (if b then uQ (wt q f r k n.fLeft.toNat b) (wt q f r k n.fRight.toNat b) else iO (wt q f r k n.fLeft.toNat b) (wt q f r k n.fRight.toNat b))
   else ⟨false, []⟩
theorem b6k (a b : TEdit) : gG (uQ a b) ≤ gG a + gG b := by
 unfold uQ
 have e0 : gG ⟨false, []⟩ = 0 := rfl
 split <;> split <;> omega
theorem b8Q {q : List TNode} {f : TFile} {r : List TResult} (h : okQ q = true) : ∀ (k i : Nat) (b : Bool), gG (wt q f r k i b) ≤ 16 * 2 ^ k
 | 0, i, b => by simp [wt, gG, aV, wsum]
 | k + 1, i, b => by
  have e0 : gG ⟨false, []⟩ = 0 := rfl
  have e1 : gG ⟨true, []⟩ = 0 := rfl
  have hp : 1 ≤ 2 ^ k := Nat.one_le_two_pow
  have hs : 2 ^ (k + 1) = 2 * 2 ^ k := by rw [Nat.pow_succ]; omega
  have ih := b8Q (f := f) (r := r) h k
  rw [hs]
  unfold wt
  split
  ·omega
  rename_i n hn
  have hok := sJ h hn
  split
  ·omega
  split
  ·rename_i h3
   have hw := a9s hok (.inr h3)
   have := hw.2 h3
   split
   ·simp [gG, aV, wsum, wAttr, fV]; omega
   ·omega
  split
  ·rename_i h2
   have hw := a9s hok (.inl h2)
   have e3 : (⟨#[]⟩ : ByteArray).size = 0 := rfl
   split
   ·omega
   ·simp [gG, aV, wsum, wAttr, fV]; omega
  split
  ·have := ih n.fLeft.toNat (!b); omega
  split
  ·have h1 := ih n.fLeft.toNat b
   have h2 := ih n.fRight.toNat b
   have h3 := b0u (wt q f r k n.fLeft.toNat b) (wt q f r k n.fRight.toNat b)
   have h4 := b6k (wt q f r k n.fLeft.toNat b) (wt q f r k n.fRight.toNat b)
   split <;> omega
  split
  ·have h1 := ih n.fLeft.toNat b
   have h2 := ih n.fRight.toNat b
   have h3 := b0u (wt q f r k n.fLeft.toNat b) (wt q f r k n.fRight.toNat b)
   have h4 := b6k (wt q f r k n.fLeft.toNat b) (wt q f r k n.fRight.toNat b)
   split <;> omega
  ·omega
theorem b4u (e : TEdit) : e.fSet.length ≤ gG e := by unfold gG; exact (by unfold aV; omega)
theorem a8z {q : List TNode} {f : TFile} {r : List TResult} (h : okQ q = true) (k i : Nat) (b : Bool) (hk : k ≤ 9) : (wt q f r k i b).fSet.length ≤ 1048576 := by
 have h1 := b4u (wt q f r k i b)
 have h2 := b8Q (f := f) (r := r) h k i b
 have h3 : 2 ^ k ≤ 2 ^ 9 := Nat.pow_le_pow_right (by omega) hk
 have h4 : (2 : Nat) ^ 9 = 512 := rfl
 omega
theorem wR (a b : TEdit) : FnC Tryz.prog 252 [gT a, gT b] (gT (uQ a b)) := by
 refine ent Tryz.func252 rfl Tryz.call252 rfl (fun C => ?_); simp only [go_sem, st0, Tryz.ntmps252]
 cases ha : a.fOK <;> cases hb : b.fOK
 all_goals
  have q0 := @Bool.true_beq; have q1 := @Bool.false_beq; have q2 := @ha; have q3 := @hb; refine kC ?_
  exact aA ⟨⟨_, rfl, by simp only [go_sem, uQ, ha, hb, if_true, if_false]⟩, trivial⟩
theorem lY {f : Nat} {args : List SV} {e : TEdit} (h : FnC Tryz.prog f args (a2M e)) (ha : args.map (lF []) = args) (hf : args.all fC = true) : FnC Tryz.prog f args (gT e) := h.pure ha hf (by simp only [go_sem]) (by simp only [go_sem])
theorem a3m (q : List TNode) (f : TFile) (r : List TResult) (hv : okQ q = true) (hf : wFile f ≤ 1048576) (hr : aG r ≤ 1048576) : ∀ (k i : Nat) (b : Bool), i < k → k ≤ q.length → FnC Tryz.prog 204 [.o (.d (.sl (q.map aT))), oi (i : Nat), bC f, .o (.d (.sl (r.map aH))), ob b] (gT (wt q f r k i b)) := by
 intro k
 induction k with
 | zero => intro i b hi _; omega
 | succ k ih => ?_
 intro i b hi hk
 have hlt : i < q.length := by omega
 have hq9 := (iE hv).2
 have hn := List.getElem?_eq_getElem hlt
 have hok := sJ hv hn
 have hop := nJ hok
 have hM := a1D q f r hv (by omega) (by omega) (k + 1) i hi hk
 by_cases hm : mt q f r (k + 1) i = b
 ·have e : wt q f r (k + 1) i b = ⟨true, []⟩ := by simp [wt, hn, hm]
  rw [e]
  refine lY ?_ (by simp only [go_sem]) (by simp only [go_sem])
  refine ent Tryz.func204 rfl Tryz.call204 rfl (fun C => ?_); simp only [go_sem, st0, Tryz.ntmps204]
  rw [hm] at hM
  cases b
  all_goals
   have q0 := @Bool.true_beq; have q1 := @Bool.false_beq; have q2 := @hlt; refine jP hM ?_
   exact aA ⟨⟨_, rfl, by simp only [go_sem]⟩, trivial⟩
 have hmb : mt q f r (k + 1) i = !b := by cases b <;> simp_all
 rw [hmb] at hM
 by_cases h5 : q[i].fOp = 5
 ·obtain ⟨l, hl, hli⟩ := dG hok (.inl h5)
  have e : wt q f r (k + 1) i b = wt q f r k l (!b) := by simp [wt, hn, hm, h5, hl]
  rw [e]
  refine ent Tryz.func204 rfl Tryz.call204 rfl (fun C => ?_); simp only [go_sem, st0, Tryz.ntmps204]
  cases b
  ·simp only [Bool.not_true, Bool.not_false] at hM ⊢
   have q0 := @Bool.true_beq; have q1 := @Bool.false_beq; have q2 := @hlt; have q3 := @h5; have q4 := @decide_true; have q5 := @decide_false; have q6 := @hl; refine b5g hM (ih l true (by omega) (by omega)) ?_
   exact aA ⟨⟨_, rfl, by simp only [go_sem]⟩, trivial⟩
  ·simp only [Bool.not_true, Bool.not_false] at hM ⊢
   have q0 := @Bool.true_beq; have q1 := @Bool.false_beq; have q2 := @hlt; have q3 := @h5; have q4 := @decide_true; have q5 := @decide_false; have q6 := @hl; refine b5g hM (ih l false (by omega) (by omega)) ?_
   exact aA ⟨⟨_, rfl, by simp only [go_sem]⟩, trivial⟩
 by_cases h3 : q[i].fOp = 3
 ·cases b
  ·have e : wt q f r (k + 1) i false = ⟨false, []⟩ := by simp [wt, hn, hm, h3]
   rw [e]
   simp only [Bool.not_false] at hM
   refine ent Tryz.func204 rfl Tryz.call204 rfl (fun C => ?_); simp only [go_sem, st0, Tryz.ntmps204]
   have q0 := @Bool.true_beq; have q1 := @Bool.false_beq; have q2 := @hlt; have q3 := @h3; have q4 := @h5; have q5 := @decide_true; have q6 := @decide_false; refine a5Y hM ?_
   exact aA ⟨⟨_, rfl, by simp only [go_sem]⟩, trivial⟩
  ·have e : wt q f r (k + 1) i true = ⟨true, [⟨q[i].fName, q[i].fValue⟩]⟩ := by simp [wt, hn, hm, h3]
   rw [e]
   refine lY ?_ (by simp only [go_sem]) (by simp only [go_sem])
   simp only [Bool.not_true] at hM
   refine ent Tryz.func204 rfl Tryz.call204 rfl (fun C => ?_); simp only [go_sem, st0, Tryz.ntmps204]
   have q0 := @Bool.true_beq; have q1 := @Bool.false_beq; have q2 := @hlt; have q3 := @h3; have q4 := @h5; have q5 := @decide_true; have q6 := @decide_false; refine a5Y hM ?_
   exact aA ⟨⟨_, rfl, by simp only [go_sem]⟩, trivial⟩
 by_cases h2 : q[i].fOp = 2
 ·cases b
  ·have e : wt q f r (k + 1) i false = ⟨true, [⟨q[i].fName, ⟨0, 0, ⟨#[]⟩⟩⟩]⟩ := by simp [wt, hn, hm, h2]
   rw [e]
   refine lY ?_ (by simp only [go_sem]) (by simp only [go_sem])
   simp only [Bool.not_false] at hM
   refine ent Tryz.func204 rfl Tryz.call204 rfl (fun C => ?_); simp only [go_sem, st0, Tryz.ntmps204]
   have q0 := @Bool.true_beq; have q1 := @Bool.false_beq; have q2 := @hlt; have q3 := @h2; have q4 := @h3; have q5 := @h5; have q6 := @decide_true; have q7 := @decide_false; refine a1d hM ?_
   exact aA ⟨⟨_, rfl, by simp only [go_sem]⟩, trivial⟩
  ·have e : wt q f r (k + 1) i true = ⟨false, []⟩ := by simp [wt, hn, hm, h2]
   rw [e]
   simp only [Bool.not_true] at hM
   refine ent Tryz.func204 rfl Tryz.call204 rfl (fun C => ?_); simp only [go_sem, st0, Tryz.ntmps204]
   have q0 := @Bool.true_beq; have q1 := @Bool.false_beq; have q2 := @hlt; have q3 := @h2; have q4 := @h3; have q5 := @h5; have q6 := @decide_true; have q7 := @decide_false; refine a1d hM ?_
   exact aA ⟨⟨_, rfl, by simp only [go_sem]⟩, trivial⟩
 by_cases h67 : q[i].fOp = 6 ∨ q[i].fOp = 7
 ·obtain ⟨l, hl, hli⟩ := dG hok (.inr h67)
  obtain ⟨m, hr2, hmi⟩ := fE hok h67
  have iL := ih l b (by omega) (by omega)
  have iR := ih m b (by omega) (by omega)
  have lL := a8z (f := f) (r := r) hv k l b (by omega)
  have lR := a8z (f := f) (r := r) hv k m b (by omega)
  by_cases h6 : q[i].fOp = 6
  ·have e : wt q f r (k + 1) i b = if b then iO (wt q f r k l b) (wt q f r k m b) else uQ (wt q f r k l b) (wt q f r k m b) := by simp [wt, hn, hm, h6, hl, hr2]
   rw [e]
   generalize wt q f r k l b = A at *
   generalize wt q f r k m b = B at *
   cases b
   all_goals
    simp only [Bool.not_true, Bool.not_false, if_true, if_false, Bool.false_eq_true] at hM ⊢
    refine ent Tryz.func204 rfl Tryz.call204 rfl (fun C => ?_); simp only [go_sem, st0, Tryz.ntmps204]
    have qH := aI @Bool.true_beq (aI @Bool.false_beq (aI @hlt (aI @h2 (aI @h3 (aI @h5 (aI @h6 (aI @decide_true (aI @decide_false (aI @hl @hr2))))))))); repeat' (with_reducible first | refine nY ?_ | (refine mX ?_; try simp only [go_sem, qH]) | refine kD ?_ | refine rT [15] [] ?_ | refine dF (aX ?_) (uX ?_) | refine dY (aX ?_) ?_ | (refine uA ?_; simp only [go_sem, qH]; (repeat' first | omega | refine And.intro ?_ ?_ | refine cP hM ?_ | refine cP iL ?_ | refine cP iR ?_ | refine cP (oG A B lL lR) ?_ | refine cP (wR A B) ?_ | (refine mX ?_; simp only [go_sem, qH] <;> fail)); done) | refine rD ?_ | refine cP hM ?_ | refine cP iL ?_ | refine cP iR ?_ | refine cP (oG A B lL lR) ?_ | refine cP (wR A B) ?_ | refine aO ?_ | fail)
    exact aA ⟨⟨_, rfl, by simp only [go_sem]⟩, trivial⟩
  ·have h7 : q[i].fOp = 7 := by omega
   have e : wt q f r (k + 1) i b = if b then uQ (wt q f r k l b) (wt q f r k m b) else iO (wt q f r k l b) (wt q f r k m b) := by simp [wt, hn, hm, h7, hl, hr2]
   rw [e]
   generalize wt q f r k l b = A at *
   generalize wt q f r k m b = B at *
   cases b
   all_goals
    simp only [Bool.not_true, Bool.not_false, if_true, if_false, Bool.false_eq_true] at hM ⊢
    refine ent Tryz.func204 rfl Tryz.call204 rfl (fun C => ?_); simp only [go_sem, st0, Tryz.ntmps204]
    have qH := aI @Bool.true_beq (aI @Bool.false_beq (aI @hlt (aI @h2 (aI @h3 (aI @h5 (aI @h6 (aI @h7 (aI @decide_true (aI @decide_false (aI @hl @hr2)))))))))); repeat' (with_reducible first | refine nY ?_ | (refine mX ?_; try simp only [go_sem, qH]) | refine kD ?_ | refine rT [15] [] ?_ | refine dF (aX ?_) (uX ?_) | refine dY (aX ?_) ?_ | (refine uA ?_; simp only [go_sem, qH]; (repeat' first | omega | refine And.intro ?_ ?_ | refine cP hM ?_ | refine cP iL ?_ | refine cP iR ?_ | refine cP (oG A B lL lR) ?_ | refine cP (wR A B) ?_ | (refine mX ?_; simp only [go_sem, qH] <;> fail)); done) | refine rD ?_ | refine cP hM ?_ | refine cP iL ?_ | refine cP iR ?_ | refine cP (oG A B lL lR) ?_ | refine cP (wR A B) ?_ | refine aO ?_ | fail)
    exact aA ⟨⟨_, rfl, by simp only [go_sem]⟩, trivial⟩
 have h6 : ¬ q[i].fOp = 6 := fun h => h67 (.inl h)
 have h7 : ¬ q[i].fOp = 7 := fun h => h67 (.inr h)
 have e : wt q f r (k + 1) i b = ⟨false, []⟩ := by simp [wt, hn, hm, h2, h3, h5, h6, h7]
 rw [e]
 refine ent Tryz.func204 rfl Tryz.call204 rfl (fun C => ?_); simp only [go_sem, st0, Tryz.ntmps204]
 cases b
 all_goals
  simp only [Bool.not_true, Bool.not_false] at hM
  have q0 := @Bool.true_beq; have q1 := @Bool.false_beq; have q2 := @hlt; have q3 := @h2; have q4 := @h3; have q5 := @h5; have q6 := @h6; have q7 := @h7; have q8 := @decide_false; refine a9k hM ?_
  exact aA ⟨⟨_, rfl, by simp only [go_sem]⟩, trivial⟩
theorem a0j (q : List TNode) (f : TFile) (r : List TResult) (hv : okQ q = true) (hf : wFile f ≤ 1048576) (hr : aG r ≤ 1048576) : ∀ (k i : Nat) (b : Bool), i < k → k ≤ q.length → FnC Tryz.prog 211 [.o (.d (.sl (q.map aT))), oi (i : Nat), bC f, .o (.d (.sl (r.map aH))), ob b] (a2M (wt q f r k i b)) := by
 intro k
 induction k with
 | zero => intro i b hi _; omega
 | succ k ih => ?_
 intro i b hi hk
 have hlt : i < q.length := by omega
 have hq9 := (iE hv).2
 have hn := List.getElem?_eq_getElem hlt
 have hok := sJ hv hn
 have hop := nJ hok
 have hM := a1C q f r hv (by omega) (by omega) (k + 1) i hi hk
 by_cases hm : mt q f r (k + 1) i = b
 ·have e : wt q f r (k + 1) i b = ⟨true, []⟩ := by simp [wt, hn, hm]
  rw [e]
  refine ent Tryz.func211 rfl Tryz.call211 rfl (fun C => ?_); simp only [go_sem, st0, Tryz.ntmps211]
  rw [hm] at hM
  cases b
  all_goals
   have q0 := @Bool.true_beq; have q1 := @Bool.false_beq; have q2 := @hlt; refine jP hM ?_
   exact aA ⟨⟨_, rfl, by simp only [go_sem]⟩, trivial⟩
 have hmb : mt q f r (k + 1) i = !b := by cases b <;> simp_all
 rw [hmb] at hM
 by_cases h3 : q[i].fOp = 3
 ·cases b
  ·have e : wt q f r (k + 1) i false = ⟨false, []⟩ := by simp [wt, hn, hm, h3]
   rw [e]
   simp only [Bool.not_false] at hM
   refine ent Tryz.func211 rfl Tryz.call211 rfl (fun C => ?_); simp only [go_sem, st0, Tryz.ntmps211]
   have q0 := @Bool.true_beq; have q1 := @Bool.false_beq; have q2 := @hlt; have q3 := @h3; have q4 := @decide_true; have q5 := @decide_false; refine a1c hM ?_
   exact aA ⟨⟨_, rfl, by simp only [go_sem]⟩, trivial⟩
  ·have e : wt q f r (k + 1) i true = ⟨true, [⟨q[i].fName, q[i].fValue⟩]⟩ := by simp [wt, hn, hm, h3]
   rw [e]
   simp only [Bool.not_true] at hM
   refine ent Tryz.func211 rfl Tryz.call211 rfl (fun C => ?_); simp only [go_sem, st0, Tryz.ntmps211]
   have q0 := @Bool.true_beq; have q1 := @Bool.false_beq; have q2 := @hlt; have q3 := @h3; have q4 := @decide_true; have q5 := @decide_false; refine a1c hM ?_
   exact aA ⟨⟨_, rfl, by simp only [go_sem]⟩, trivial⟩
 by_cases h2 : q[i].fOp = 2
 ·cases b
  ·have e : wt q f r (k + 1) i false = ⟨true, [⟨q[i].fName, ⟨0, 0, ⟨#[]⟩⟩⟩]⟩ := by simp [wt, hn, hm, h2]
   rw [e]
   simp only [Bool.not_false] at hM
   refine ent Tryz.func211 rfl Tryz.call211 rfl (fun C => ?_); simp only [go_sem, st0, Tryz.ntmps211]
   have q0 := @Bool.true_beq; have q1 := @Bool.false_beq; have q2 := @hlt; have q3 := @h2; have q4 := @h3; have q5 := @decide_true; have q6 := @decide_false; refine a5Y hM ?_
   exact aA ⟨⟨_, rfl, by simp only [go_sem]⟩, trivial⟩
  ·have e : wt q f r (k + 1) i true = ⟨false, []⟩ := by simp [wt, hn, hm, h2]
   rw [e]
   simp only [Bool.not_true] at hM
   refine ent Tryz.func211 rfl Tryz.call211 rfl (fun C => ?_); simp only [go_sem, st0, Tryz.ntmps211]
   have q0 := @Bool.true_beq; have q1 := @Bool.false_beq; have q2 := @hlt; have q3 := @h2; have q4 := @h3; have q5 := @decide_true; have q6 := @decide_false; refine a5Y hM ?_
   exact aA ⟨⟨_, rfl, by simp only [go_sem]⟩, trivial⟩
 by_cases h5 : q[i].fOp = 5
 ·obtain ⟨l, hl, hli⟩ := dG hok (.inl h5)
  have e : wt q f r (k + 1) i b = wt q f r k l (!b) := by simp [wt, hn, hm, h5, hl]
  rw [e]
  refine ent Tryz.func211 rfl Tryz.call211 rfl (fun C => ?_); simp only [go_sem, st0, Tryz.ntmps211]
  cases b
  ·simp only [Bool.not_true, Bool.not_false] at hM ⊢
   have q0 := @Bool.true_beq; have q1 := @Bool.false_beq; have q2 := @hlt; have q3 := @h2; have q4 := @h3; have q5 := @h5; have q6 := @decide_true; have q7 := @decide_false; have q8 := @hl; refine a5Z hM (ih l true (by omega) (by omega)) ?_
   exact aA ⟨⟨_, rfl, by simp only [go_sem]⟩, trivial⟩
  ·simp only [Bool.not_true, Bool.not_false] at hM ⊢
   have q0 := @Bool.true_beq; have q1 := @Bool.false_beq; have q2 := @hlt; have q3 := @h2; have q4 := @h3; have q5 := @h5; have q6 := @decide_true; have q7 := @decide_false; have q8 := @hl; refine a5Z hM (ih l false (by omega) (by omega)) ?_
   exact aA ⟨⟨_, rfl, by simp only [go_sem]⟩, trivial⟩
 by_cases h67 : q[i].fOp = 6 ∨ q[i].fOp = 7
 ·obtain ⟨l, hl, hli⟩ := dG hok (.inr h67)
  obtain ⟨m, hr2, hmi⟩ := fE hok h67
  have iL := ih l b (by omega) (by omega)
  have iR := ih m b (by omega) (by omega)
  have lL := a8z (f := f) (r := r) hv k l b (by omega)
  have lR := a8z (f := f) (r := r) hv k m b (by omega)
  by_cases h6 : q[i].fOp = 6
  ·have e : wt q f r (k + 1) i b = if b then iO (wt q f r k l b) (wt q f r k m b) else uQ (wt q f r k l b) (wt q f r k m b) := by simp [wt, hn, hm, h6, hl, hr2]
   rw [e]
   generalize wt q f r k l b = A at *
   generalize wt q f r k m b = B at *
   have pL := lY iL (by simp only [go_sem]) (by simp only [go_sem])
   have pR := lY iR (by simp only [go_sem]) (by simp only [go_sem])
   cases b
   ·simp only [Bool.not_false, if_false, Bool.false_eq_true] at hM ⊢
    cases ha : A.fOK <;> cases hb : B.fOK
    ·refine ent Tryz.func211 rfl Tryz.call211 rfl (fun C => ?_); simp only [go_sem, st0, Tryz.ntmps211]
     have qH := aI @Bool.true_beq (aI @Bool.false_beq (aI @hlt (aI @h2 (aI @h3 (aI @h5 (aI @h6 (aI @decide_true (aI @decide_false (aI @hl (aI @hr2 (aI @ha @hb))))))))))); repeat' (with_reducible first | refine nY ?_ | (refine mX ?_; try simp only [go_sem, qH]) | refine kD ?_ | (apply rE [14,15,16,17] [] [0,1,2,3,4,5,6,7,8,9,10,11,12,13] [0,1,2,3,4,5,6,7,8,9,10,11,12,13] ((.c 14 [] [0,1,2,3,4,5,6,7,8,9,10,11,12,13] (.c 15 [] [0,1,2,3,4,5,6,7,8,9,10,11,12,13] (.c 16 [] [] (.c 17 [] [] .n .n) .n) .n) (.c 15 [] [0,1,2,3,4,5,6,7,8,9,10,11,12,13] (.c 14 [] [0,1,2,3,4,5,6,7,8,9,10,11,12,13] (.c 16 [] [] (.c 17 [] [] .n .n) .n) .n) .n))) (by simp only [go_sem]; rfl) (by simp only [go_sem]; rfl) (by simp only [go_sem]; rfl) (by decide +kernel); (focus simp only [go_sem]; done)) | exact bU | refine bF (uX ?_) ?_ | refine bG (aX ?_) ?_ | refine bH (aX ?_) ?_ | exact bE | (refine dB [(3, 4)] (by simp only [go_sem]; rfl) ?_; exact rfl) | exact oH | (refine uA ?_; simp only [go_sem, qH]; (repeat' first | omega | refine And.intro ?_ ?_ | refine cP hM ?_ | refine cP pL ?_ | refine cP pR ?_ | (refine mX ?_; simp only [go_sem, qH] <;> fail)); done) | refine rD ?_ | refine cP hM ?_ | refine cP pL ?_ | refine cP pR ?_ | refine aO ?_ | fail)
     exact aA ⟨⟨_, rfl, by simp only [go_sem, uQ, ha, hb, if_true, if_false, Bool.false_eq_true]⟩, trivial⟩
    ·refine ent Tryz.func211 rfl Tryz.call211 rfl (fun C => ?_); simp only [go_sem, st0, Tryz.ntmps211]
     have qH := aI @Bool.true_beq (aI @Bool.false_beq (aI @hlt (aI @h2 (aI @h3 (aI @h5 (aI @h6 (aI @decide_true (aI @decide_false (aI @hl (aI @hr2 (aI @ha @hb))))))))))); repeat' (with_reducible first | refine nY ?_ | (refine mX ?_; try simp only [go_sem, qH]) | refine kD ?_ | (apply rE [13,14,15,16,17] [] [0,1,2,3,4,5,6,7,8,9,10,11,12] [0,1,2,3,4,5,6,7,8,9,10,11,12] ((.c 13 [] [] (.c 14 [] [] (.c 15 [] [] (.c 16 [] [] (.c 17 [] [] .n .n) .n) .n) (.c 15 [] [] (.c 14 [] [] (.c 16 [] [] (.c 17 [] [] .n .n) .n) .n) .n)) (.c 14 [] [0,1,2,3,4,5,6,7,8,9,10,11,12] (.c 13 [] [] (.c 15 [] [] (.c 16 [] [] (.c 17 [] [] .n .n) .n) .n) (.c 15 [] [0,1,2,3,4,5,6,7,8,9,10,11,12] (.c 13 [] [] (.c 16 [] [] (.c 17 [] [] .n .n) .n) .n) .n)) (.c 15 [] [0,1,2,3,4,5,6,7,8,9,10,11,12] (.c 13 [] [] (.c 14 [] [] (.c 16 [] [] (.c 17 [] [] .n .n) .n) .n) (.c 14 [] [0,1,2,3,4,5,6,7,8,9,10,11,12] (.c 13 [] [] (.c 16 [] [] (.c 17 [] [] .n .n) .n) .n) .n)) .n)))) (by simp only [go_sem]; rfl) (by simp only [go_sem]; rfl) (by simp only [go_sem]; rfl) (by decide +kernel); (focus simp only [go_sem]; done)) | exact bU | refine bF (uX ?_) ?_ | refine bG (aX ?_) ?_ | refine bH (aX ?_) ?_ | exact bE | (refine dB [(4, 5)] (by simp only [go_sem]; rfl) ?_; exact rfl) | (refine dB [(3, 4)] (by simp only [go_sem]; rfl) ?_; exact rfl) | (refine dB [(3, 5), (4, 5)] (by simp only [go_sem]; rfl) ?_; exact rfl) | (refine dB [(3, 4), (4, 5)] (by simp only [go_sem]; rfl) ?_; exact rfl) | (refine dB [(3, 5)] (by simp only [go_sem]; rfl) ?_; exact rfl) | exact oH | (refine uA ?_; simp only [go_sem, qH]; (repeat' first | omega | refine And.intro ?_ ?_ | refine cP hM ?_ | refine cP pL ?_ | refine cP iR ?_ | (refine mX ?_; simp only [go_sem, qH] <;> fail)); done) | refine rD ?_ | refine cP hM ?_ | refine cP pL ?_ | refine cP iR ?_ | refine aO ?_ | fail)
     exact aA ⟨⟨_, rfl, by simp only [go_sem, uQ, ha, hb, if_true, if_false, Bool.false_eq_true]⟩, trivial⟩
    ·refine ent Tryz.func211 rfl Tryz.call211 rfl (fun C => ?_); simp only [go_sem, st0, Tryz.ntmps211]
     have qH := aI @Bool.true_beq (aI @Bool.false_beq (aI @hlt (aI @h2 (aI @h3 (aI @h5 (aI @h6 (aI @decide_true (aI @decide_false (aI @hl (aI @hr2 (aI @ha @hb))))))))))); repeat' (with_reducible first | refine nY ?_ | (refine mX ?_; try simp only [go_sem, qH]) | refine kD ?_ | (apply rE [6,14,15,16,17] [] [0,1,2,3,4,5,7,8,9,10,11,12] [0,1,2,3,4,5,7,8,9,10,11,12] ((.c 6 [13] [7,8,9,10,11,12,13] (.c 14 [] [7,8,9,10,11,12,13] (.c 15 [] [7,8,9,10,11,12,13] (.c 16 [] [] (.c 17 [] [] .n .n) .n) .n) (.c 15 [] [7,8,9,10,11,12,13] (.c 14 [] [7,8,9,10,11,12,13] (.c 16 [] [] (.c 17 [] [] .n .n) .n) .n) .n)) (.c 14 [] [0,1,2,3,4,5,7,8,9,10,11,12] (.c 6 [13] [7,8,9,10,11,12,13] (.c 15 [] [7,8,9,10,11,12,13] (.c 16 [] [] (.c 17 [] [] .n .n) .n) .n) (.c 15 [] [0,1,2,3,4,5,7,8,9,10,11,12] (.c 6 [13] [7,8,9,10,11,12,13] (.c 16 [] [] (.c 17 [] [] .n .n) .n) .n) .n)) (.c 15 [] [0,1,2,3,4,5,7,8,9,10,11,12] (.c 6 [13] [7,8,9,10,11,12,13] (.c 14 [] [7,8,9,10,11,12,13] (.c 16 [] [] (.c 17 [] [] .n .n) .n) .n) (.c 14 [] [0,1,2,3,4,5,7,8,9,10,11,12] (.c 6 [13] [7,8,9,10,11,12,13] (.c 16 [] [] (.c 17 [] [] .n .n) .n) .n) .n)) .n)))) (by simp only [go_sem]; rfl) (by simp only [go_sem]; rfl) (by simp only [go_sem]; rfl) (by decide +kernel); (focus simp only [go_sem]; done)) | exact bU | refine bF (uX ?_) ?_ | refine bG (aX ?_) ?_ | refine bH (aX ?_) ?_ | exact bE | (refine dB [(4, 5)] (by simp only [go_sem]; rfl) ?_; exact rfl) | (refine dB [(3, 4)] (by simp only [go_sem]; rfl) ?_; exact rfl) | (refine dB [(3, 5), (4, 5)] (by simp only [go_sem]; rfl) ?_; exact rfl) | (refine dB [(3, 4), (4, 5)] (by simp only [go_sem]; rfl) ?_; exact rfl) | (refine dB [(3, 5)] (by simp only [go_sem]; rfl) ?_; exact rfl) | exact oH | (refine uA ?_; simp only [go_sem, qH]; (repeat' first | omega | refine And.intro ?_ ?_ | refine cP hM ?_ | refine cP iL ?_ | refine cP pR ?_ | (refine mX ?_; simp only [go_sem, qH] <;> fail)); done) | refine rD ?_ | refine cP hM ?_ | refine cP iL ?_ | refine cP pR ?_ | refine aO ?_ | fail)
     exact aA ⟨⟨_, rfl, by simp only [go_sem, uQ, ha, hb, if_true, if_false, Bool.false_eq_true]⟩, trivial⟩
    ·refine ent Tryz.func211 rfl Tryz.call211 rfl (fun C => ?_); simp only [go_sem, st0, Tryz.ntmps211]
     have qH := aI @Bool.true_beq (aI @Bool.false_beq (aI @hlt (aI @h2 (aI @h3 (aI @h5 (aI @h6 (aI @decide_true (aI @decide_false (aI @hl (aI @hr2 (aI @ha @hb))))))))))); repeat' (with_reducible first | refine nY ?_ | (refine mX ?_; try simp only [go_sem, qH]) | refine kD ?_ | (apply rE [14,15,16,17] [] [0,1,2,3,4,5,6,7,8,9,10,11,12,13] [0,1,2,3,4,5,6,7,8,9,10,11,12,13] ((.c 14 [] [0,1,2,3,4,5,6,7,8,9,10,11,12,13] (.c 15 [] [0,1,2,3,4,5,6,7,8,9,10,11,12,13] (.c 16 [] [] (.c 17 [] [] .n .n) .n) .n) (.c 15 [] [0,1,2,3,4,5,6,7,8,9,10,11,12,13] (.c 14 [] [0,1,2,3,4,5,6,7,8,9,10,11,12,13] (.c 16 [] [] (.c 17 [] [] .n .n) .n) .n) .n))) (by simp only [go_sem]; rfl) (by simp only [go_sem]; rfl) (by simp only [go_sem]; rfl) (by decide +kernel); (focus simp only [go_sem]; done)) | exact bU | refine bF (uX ?_) ?_ | refine bG (aX ?_) ?_ | refine bH (aX ?_) ?_ | exact bE | (refine dB [(3, 4)] (by simp only [go_sem]; rfl) ?_; exact rfl) | exact oH | (refine uA ?_; simp only [go_sem, qH]; (repeat' first | omega | refine And.intro ?_ ?_ | refine cP hM ?_ | refine cP pL ?_ | refine cP pR ?_ | (refine mX ?_; simp only [go_sem, qH] <;> fail)); done) | refine rD ?_ | refine cP hM ?_ | refine cP pL ?_ | refine cP pR ?_ | refine aO ?_ | fail)
     exact aA ⟨⟨_, rfl, by simp only [go_sem, uQ, ha, hb, if_true, if_false, Bool.false_eq_true]⟩, trivial⟩
   ·simp only [Bool.not_true, if_true] at hM ⊢
    refine ent Tryz.func211 rfl Tryz.call211 rfl (fun C => ?_); simp only [go_sem, st0, Tryz.ntmps211]
    have qH := aI @Bool.true_beq (aI @Bool.false_beq (aI @hlt (aI @h2 (aI @h3 (aI @h5 (aI @h6 (aI @decide_true (aI @decide_false (aI @hl @hr2))))))))); repeat' (with_reducible first | refine nY ?_ | (refine mX ?_; try simp only [go_sem, qH]) | refine kD ?_ | (apply rE [14,15,16,17] [] [0,1,2,3,4,5,6,7,8,9,10,11,12,13] [0,1,2,3,4,5,6,7,8,9,10,11,12,13] ((.c 14 [] [0,1,2,3,4,5,6,7,8,9,10,11,12,13] (.c 15 [] [0,1,2,3,4,5,6,7,8,9,10,11,12,13] (.c 16 [] [] (.c 17 [] [] .n .n) .n) .n) (.c 15 [] [0,1,2,3,4,5,6,7,8,9,10,11,12,13] (.c 14 [] [0,1,2,3,4,5,6,7,8,9,10,11,12,13] (.c 16 [] [] (.c 17 [] [] .n .n) .n) .n) .n))) (by simp only [go_sem]; rfl) (by simp only [go_sem]; rfl) (by simp only [go_sem]; rfl) (by decide +kernel); (focus simp only [go_sem]; done)) | exact bU | refine bF (uX ?_) ?_ | refine bG (aX ?_) ?_ | refine bH (aX ?_) ?_ | exact bE | (refine dB [(3, 4)] (by simp only [go_sem]; rfl) ?_; exact rfl) | exact oH | (refine uA ?_; simp only [go_sem, qH]; (repeat' first | omega | refine And.intro ?_ ?_ | refine cP hM ?_ | refine cP pL ?_ | refine cP pR ?_ | refine cP (pJ A B lL lR) ?_ | (refine mX ?_; simp only [go_sem, qH] <;> fail)); done) | refine rD ?_ | refine cP hM ?_ | refine cP pL ?_ | refine cP pR ?_ | refine cP (pJ A B lL lR) ?_ | refine aO ?_ | fail)
    exact aA ⟨⟨_, rfl, by simp only [go_sem]⟩, trivial⟩
  ·have h7 : q[i].fOp = 7 := by omega
   have e : wt q f r (k + 1) i b = if b then uQ (wt q f r k l b) (wt q f r k m b) else iO (wt q f r k l b) (wt q f r k m b) := by simp [wt, hn, hm, h7, hl, hr2]
   rw [e]
   generalize wt q f r k l b = A at *
   generalize wt q f r k m b = B at *
   have pL := lY iL (by simp only [go_sem]) (by simp only [go_sem])
   have pR := lY iR (by simp only [go_sem]) (by simp only [go_sem])
   cases b
   ·simp only [Bool.not_false, if_false, Bool.false_eq_true] at hM ⊢
    refine ent Tryz.func211 rfl Tryz.call211 rfl (fun C => ?_); simp only [go_sem, st0, Tryz.ntmps211]
    have qH := aI @Bool.true_beq (aI @Bool.false_beq (aI @hlt (aI @h2 (aI @h3 (aI @h5 (aI @h6 (aI @h7 (aI @decide_true (aI @decide_false (aI @hl @hr2)))))))))); repeat' (with_reducible first | refine nY ?_ | (refine mX ?_; try simp only [go_sem, qH]) | refine kD ?_ | (apply rE [14,15,16,17] [] [0,1,2,3,4,5,6,7,8,9,10,11,12,13] [0,1,2,3,4,5,6,7,8,9,10,11,12,13] ((.c 14 [] [0,1,2,3,4,5,6,7,8,9,10,11,12,13] (.c 15 [] [0,1,2,3,4,5,6,7,8,9,10,11,12,13] (.c 16 [] [] (.c 17 [] [] .n .n) .n) .n) (.c 15 [] [0,1,2,3,4,5,6,7,8,9,10,11,12,13] (.c 14 [] [0,1,2,3,4,5,6,7,8,9,10,11,12,13] (.c 16 [] [] (.c 17 [] [] .n .n) .n) .n) .n))) (by simp only [go_sem]; rfl) (by simp only [go_sem]; rfl) (by simp only [go_sem]; rfl) (by decide +kernel); (focus simp only [go_sem]; done)) | exact bU | refine bF (uX ?_) ?_ | refine bG (aX ?_) ?_ | refine bH (aX ?_) ?_ | exact bE | (refine dB [(3, 4)] (by simp only [go_sem]; rfl) ?_; exact rfl) | exact oH | (refine uA ?_; simp only [go_sem, qH]; (repeat' first | omega | refine And.intro ?_ ?_ | refine cP hM ?_ | refine cP pL ?_ | refine cP pR ?_ | refine cP (pJ A B lL lR) ?_ | (refine mX ?_; simp only [go_sem, qH] <;> fail)); done) | refine rD ?_ | refine cP hM ?_ | refine cP pL ?_ | refine cP pR ?_ | refine cP (pJ A B lL lR) ?_ | refine aO ?_ | fail)
    exact aA ⟨⟨_, rfl, by simp only [go_sem]⟩, trivial⟩
   ·simp only [Bool.not_true, if_true] at hM ⊢
    cases ha : A.fOK <;> cases hb : B.fOK
    ·refine ent Tryz.func211 rfl Tryz.call211 rfl (fun C => ?_); simp only [go_sem, st0, Tryz.ntmps211]
     have qH := aI @Bool.true_beq (aI @Bool.false_beq (aI @hlt (aI @h2 (aI @h3 (aI @h5 (aI @h6 (aI @h7 (aI @decide_true (aI @decide_false (aI @hl (aI @hr2 (aI @ha @hb)))))))))))); repeat' (with_reducible first | refine nY ?_ | (refine mX ?_; try simp only [go_sem, qH]) | refine kD ?_ | (apply rE [14,15,16,17] [] [0,1,2,3,4,5,6,7,8,9,10,11,12,13] [0,1,2,3,4,5,6,7,8,9,10,11,12,13] ((.c 14 [] [0,1,2,3,4,5,6,7,8,9,10,11,12,13] (.c 15 [] [0,1,2,3,4,5,6,7,8,9,10,11,12,13] (.c 16 [] [] (.c 17 [] [] .n .n) .n) .n) (.c 15 [] [0,1,2,3,4,5,6,7,8,9,10,11,12,13] (.c 14 [] [0,1,2,3,4,5,6,7,8,9,10,11,12,13] (.c 16 [] [] (.c 17 [] [] .n .n) .n) .n) .n))) (by simp only [go_sem]; rfl) (by simp only [go_sem]; rfl) (by simp only [go_sem]; rfl) (by decide +kernel); (focus simp only [go_sem]; done)) | exact bU | refine bF (uX ?_) ?_ | refine bG (aX ?_) ?_ | refine bH (aX ?_) ?_ | exact bE | (refine dB [(3, 4)] (by simp only [go_sem]; rfl) ?_; exact rfl) | exact oH | (refine uA ?_; simp only [go_sem, qH]; (repeat' first | omega | refine And.intro ?_ ?_ | refine cP hM ?_ | refine cP pL ?_ | refine cP pR ?_ | (refine mX ?_; simp only [go_sem, qH] <;> fail)); done) | refine rD ?_ | refine cP hM ?_ | refine cP pL ?_ | refine cP pR ?_ | refine aO ?_ | fail)
     exact aA ⟨⟨_, rfl, by simp only [go_sem, uQ, ha, hb, if_true, if_false, Bool.false_eq_true]⟩, trivial⟩
    ·refine ent Tryz.func211 rfl Tryz.call211 rfl (fun C => ?_); simp only [go_sem, st0, Tryz.ntmps211]
     have qH := aI @Bool.true_beq (aI @Bool.false_beq (aI @hlt (aI @h2 (aI @h3 (aI @h5 (aI @h6 (aI @h7 (aI @decide_true (aI @decide_false (aI @hl (aI @hr2 (aI @ha @hb)))))))))))); repeat' (with_reducible first | refine nY ?_ | (refine mX ?_; try simp only [go_sem, qH]) | refine kD ?_ | (apply rE [13,14,15,16,17] [] [0,1,2,3,4,5,6,7,8,9,10,11,12] [0,1,2,3,4,5,6,7,8,9,10,11,12] ((.c 13 [] [] (.c 14 [] [] (.c 15 [] [] (.c 16 [] [] (.c 17 [] [] .n .n) .n) .n) (.c 15 [] [] (.c 14 [] [] (.c 16 [] [] (.c 17 [] [] .n .n) .n) .n) .n)) (.c 14 [] [0,1,2,3,4,5,6,7,8,9,10,11,12] (.c 13 [] [] (.c 15 [] [] (.c 16 [] [] (.c 17 [] [] .n .n) .n) .n) (.c 15 [] [0,1,2,3,4,5,6,7,8,9,10,11,12] (.c 13 [] [] (.c 16 [] [] (.c 17 [] [] .n .n) .n) .n) .n)) (.c 15 [] [0,1,2,3,4,5,6,7,8,9,10,11,12] (.c 13 [] [] (.c 14 [] [] (.c 16 [] [] (.c 17 [] [] .n .n) .n) .n) (.c 14 [] [0,1,2,3,4,5,6,7,8,9,10,11,12] (.c 13 [] [] (.c 16 [] [] (.c 17 [] [] .n .n) .n) .n) .n)) .n)))) (by simp only [go_sem]; rfl) (by simp only [go_sem]; rfl) (by simp only [go_sem]; rfl) (by decide +kernel); (focus simp only [go_sem]; done)) | exact bU | refine bF (uX ?_) ?_ | refine bG (aX ?_) ?_ | refine bH (aX ?_) ?_ | exact bE | (refine dB [(4, 5)] (by simp only [go_sem]; rfl) ?_; exact rfl) | (refine dB [(3, 4)] (by simp only [go_sem]; rfl) ?_; exact rfl) | (refine dB [(3, 5), (4, 5)] (by simp only [go_sem]; rfl) ?_; exact rfl) | (refine dB [(3, 4), (4, 5)] (by simp only [go_sem]; rfl) ?_; exact rfl) | (refine dB [(3, 5)] (by simp only [go_sem]; rfl) ?_; exact rfl) | exact oH | (refine uA ?_; simp only [go_sem, qH]; (repeat' first | omega | refine And.intro ?_ ?_ | refine cP hM ?_ | refine cP pL ?_ | refine cP iR ?_ | (refine mX ?_; simp only [go_sem, qH] <;> fail)); done) | refine rD ?_ | refine cP hM ?_ | refine cP pL ?_ | refine cP iR ?_ | refine aO ?_ | fail)
     exact aA ⟨⟨_, rfl, by simp only [go_sem, uQ, ha, hb, if_true, if_false, Bool.false_eq_true]⟩, trivial⟩
    ·refine ent Tryz.func211 rfl Tryz.call211 rfl (fun C => ?_); simp only [go_sem, st0, Tryz.ntmps211]
     have qH := aI @Bool.true_beq (aI @Bool.false_beq (aI @hlt (aI @h2 (aI @h3 (aI @h5 (aI @h6 (aI @h7 (aI @decide_true (aI @decide_false (aI @hl (aI @hr2 (aI @ha @hb)))))))))))); repeat' (with_reducible first | refine nY ?_ | (refine mX ?_; try simp only [go_sem, qH]) | refine kD ?_ | (apply rE [6,14,15,16,17] [] [0,1,2,3,4,5,7,8,9,10,11,12] [0,1,2,3,4,5,7,8,9,10,11,12] ((.c 6 [13] [7,8,9,10,11,12,13] (.c 14 [] [7,8,9,10,11,12,13] (.c 15 [] [7,8,9,10,11,12,13] (.c 16 [] [] (.c 17 [] [] .n .n) .n) .n) (.c 15 [] [7,8,9,10,11,12,13] (.c 14 [] [7,8,9,10,11,12,13] (.c 16 [] [] (.c 17 [] [] .n .n) .n) .n) .n)) (.c 14 [] [0,1,2,3,4,5,7,8,9,10,11,12] (.c 6 [13] [7,8,9,10,11,12,13] (.c 15 [] [7,8,9,10,11,12,13] (.c 16 [] [] (.c 17 [] [] .n .n) .n) .n) (.c 15 [] [0,1,2,3,4,5,7,8,9,10,11,12] (.c 6 [13] [7,8,9,10,11,12,13] (.c 16 [] [] (.c 17 [] [] .n .n) .n) .n) .n)) (.c 15 [] [0,1,2,3,4,5,7,8,9,10,11,12] (.c 6 [13] [7,8,9,10,11,12,13] (.c 14 [] [7,8,9,10,11,12,13] (.c 16 [] [] (.c 17 [] [] .n .n) .n) .n) (.c 14 [] [0,1,2,3,4,5,7,8,9,10,11,12] (.c 6 [13] [7,8,9,10,11,12,13] (.c 16 [] [] (.c 17 [] [] .n .n) .n) .n) .n)) .n)))) (by simp only [go_sem]; rfl) (by simp only [go_sem]; rfl) (by simp only [go_sem]; rfl) (by decide +kernel); (focus simp only [go_sem]; done)) | exact bU | refine bF (uX ?_) ?_ | refine bG (aX ?_) ?_ | refine bH (aX ?_) ?_ | exact bE | (refine dB [(4, 5)] (by simp only [go_sem]; rfl) ?_; exact rfl) | (refine dB [(3, 4)] (by simp only [go_sem]; rfl) ?_; exact rfl) | (refine dB [(3, 5), (4, 5)] (by simp only [go_sem]; rfl) ?_; exact rfl) | (refine dB [(3, 4), (4, 5)] (by simp only [go_sem]; rfl) ?_; exact rfl) | (refine dB [(3, 5)] (by simp only [go_sem]; rfl) ?_; exact rfl) | exact oH | (refine uA ?_; simp only [go_sem, qH]; (repeat' first | omega | refine And.intro ?_ ?_ | refine cP hM ?_ | refine cP iL ?_ | refine cP pR ?_ | (refine mX ?_; simp only [go_sem, qH] <;> fail)); done) | refine rD ?_ | refine cP hM ?_ | refine cP iL ?_ | refine cP pR ?_ | refine aO ?_ | fail)
     exact aA ⟨⟨_, rfl, by simp only [go_sem, uQ, ha, hb, if_true, if_false, Bool.false_eq_true]⟩, trivial⟩
    ·refine ent Tryz.func211 rfl Tryz.call211 rfl (fun C => ?_); simp only [go_sem, st0, Tryz.ntmps211]
     have qH := aI @Bool.true_beq (aI @Bool.false_beq (aI @hlt (aI @h2 (aI @h3 (aI @h5 (aI @h6 (aI @h7 (aI @decide_true (aI @decide_false (aI @hl (aI @hr2 (aI @ha @hb)))))))))))); repeat' (with_reducible first | refine nY ?_ | (refine mX ?_; try simp only [go_sem, qH]) | refine kD ?_ | (apply rE [14,15,16,17] [] [0,1,2,3,4,5,6,7,8,9,10,11,12,13] [0,1,2,3,4,5,6,7,8,9,10,11,12,13] ((.c 14 [] [0,1,2,3,4,5,6,7,8,9,10,11,12,13] (.c 15 [] [0,1,2,3,4,5,6,7,8,9,10,11,12,13] (.c 16 [] [] (.c 17 [] [] .n .n) .n) .n) (.c 15 [] [0,1,2,3,4,5,6,7,8,9,10,11,12,13] (.c 14 [] [0,1,2,3,4,5,6,7,8,9,10,11,12,13] (.c 16 [] [] (.c 17 [] [] .n .n) .n) .n) .n))) (by simp only [go_sem]; rfl) (by simp only [go_sem]; rfl) (by simp only [go_sem]; rfl) (by decide +kernel); (focus simp only [go_sem]; done)) | exact bU | refine bF (uX ?_) ?_ | refine bG (aX ?_) ?_ | refine bH (aX ?_) ?_ | exact bE | (refine dB [(3, 4)] (by simp only [go_sem]; rfl) ?_; exact rfl) | exact oH | (refine uA ?_; simp only [go_sem, qH]; (repeat' first | omega | refine And.intro ?_ ?_ | refine cP hM ?_ | refine cP pL ?_ | refine cP pR ?_ | (refine mX ?_; simp only [go_sem, qH] <;> fail)); done) | refine rD ?_ | refine cP hM ?_ | refine cP pL ?_ | refine cP pR ?_ | refine aO ?_ | fail)
     exact aA ⟨⟨_, rfl, by simp only [go_sem, uQ, ha, hb, if_true, if_false, Bool.false_eq_true]⟩, trivial⟩
 have h6 : ¬ q[i].fOp = 6 := fun h => h67 (.inl h)
 have h7 : ¬ q[i].fOp = 7 := fun h => h67 (.inr h)
 have e : wt q f r (k + 1) i b = ⟨false, []⟩ := by simp [wt, hn, hm, h2, h3, h5, h6, h7]
 rw [e]
 refine ent Tryz.func211 rfl Tryz.call211 rfl (fun C => ?_); simp only [go_sem, st0, Tryz.ntmps211]
 cases b
 all_goals
  simp only [Bool.not_true, Bool.not_false] at hM
  have q0 := @Bool.true_beq; have q1 := @Bool.false_beq; have q2 := @hlt; have q3 := @h2; have q4 := @h3; have q5 := @h5; have q6 := @h6; have q7 := @h7; have q8 := @decide_false; refine a9k hM ?_
  exact aA ⟨⟨_, rfl, by simp only [go_sem]⟩, trivial⟩
def mZ (q : List TNode) (f : TFile) (r : List TResult) (b : Bool) : TEdit := if okQ q then wt q f r q.length (q.length - 1) b else ⟨false, []⟩
theorem b7D (q : List TNode) (f : TFile) (r : List TResult) (b : Bool) : gG (mZ q f r b) ≤ 8192 := by
 unfold mZ
 split
 ·rename_i h
  have h2 := b8Q (f := f) (r := r) h q.length (q.length - 1) b
  have h3 : 2 ^ q.length ≤ 2 ^ 9 := Nat.pow_le_pow_right (by omega) (iE h).2
  have h4 : (2 : Nat) ^ 9 = 512 := rfl
  omega
 ·have e0 : gG ⟨false, []⟩ = 0 := rfl
  omega
theorem a5S (q : List TNode) (f : TFile) (r : List TResult) (hq : bK q ≤ 1048576) (hf : wFile f ≤ 1048576) (hr : aG r ≤ 1048576) : FnC Tryz.prog 142 [.o (.d (.sl (q.map aT))), bC f, .o (.d (.sl (r.map aH)))] (a2M (mZ q f r true)) := by
 have hq1 : q.length ≤ bK q := by unfold bK; omega
 refine ent Tryz.func142 rfl Tryz.call142 rfl (fun C => ?_); simp only [go_sem, st0, Tryz.ntmps142]
 cases hv : okQ q
 ·have q0 := @hv; refine eZ (bL q (by omega)) ?_
  exact aA ⟨⟨_, rfl, by simp only [go_sem, mZ, hv, if_false, Bool.false_eq_true]⟩, trivial⟩
 ·have hl := iE hv
  have hx : (q.length : Int) - 1 = ((q.length - 1 : Nat) : Int) := by omega
  have q0 := @hv; have q1 := @hx; refine sI (bL q (by omega)) (a0j q f r hv hf hr q.length (q.length - 1) true (by omega) (by omega)) ?_
  exact aA ⟨⟨_, rfl, by simp only [go_sem, mZ, hv, if_true]⟩, trivial⟩
theorem a5T (q : List TNode) (f : TFile) (r : List TResult) (hq : bK q ≤ 1048576) (hf : wFile f ≤ 1048576) (hr : aG r ≤ 1048576) : FnC Tryz.prog 134 [.o (.d (.sl (q.map aT))), bC f, .o (.d (.sl (r.map aH)))] (gT (mZ q f r true)) := by
 have hq1 : q.length ≤ bK q := by unfold bK; omega
 refine ent Tryz.func134 rfl Tryz.call134 rfl (fun C => ?_); simp only [go_sem, st0, Tryz.ntmps134]
 cases hv : okQ q
 ·have q0 := @hv; refine eZ (bP q (by omega)) ?_
  exact aA ⟨⟨_, rfl, by simp only [go_sem, mZ, hv, if_false, Bool.false_eq_true]⟩, trivial⟩
 ·have hl := iE hv
  have hx : (q.length : Int) - 1 = ((q.length - 1 : Nat) : Int) := by omega
  have q0 := @hv; have q1 := @hx; refine sI (bP q (by omega)) (a3m q f r hv hf hr q.length (q.length - 1) true (by omega) (by omega)) ?_
  exact aA ⟨⟨_, rfl, by simp only [go_sem, mZ, hv, if_true]⟩, trivial⟩
theorem uP (q : List TNode) (f : TFile) (r : List TResult) (hq : bK q ≤ 1048576) (hf : wFile f ≤ 1048576) (hr : aG r ≤ 1048576) : FnC Tryz.prog 141 [.o (.d (.sl (q.map aT))), bC f, .o (.d (.sl (r.map aH)))] (a2M (mZ q f r false)) := by
 have hq1 : q.length ≤ bK q := by unfold bK; omega
 refine ent Tryz.func141 rfl Tryz.call141 rfl (fun C => ?_); simp only [go_sem, st0, Tryz.ntmps141]
 cases hv : okQ q
 ·have q0 := @hv; refine eZ (bL q (by omega)) ?_
  exact aA ⟨⟨_, rfl, by simp only [go_sem, mZ, hv, if_false, Bool.false_eq_true]⟩, trivial⟩
 ·have hl := iE hv
  have hx : (q.length : Int) - 1 = ((q.length - 1 : Nat) : Int) := by omega
  have q0 := @hv; have q1 := @hx; refine sI (bL q (by omega)) (a0j q f r hv hf hr q.length (q.length - 1) false (by omega) (by omega)) ?_
  exact aA ⟨⟨_, rfl, by simp only [go_sem, mZ, hv, if_true]⟩, trivial⟩
theorem a2B (q : List TNode) (f : TFile) (r : List TResult) (hq : bK q ≤ 1048576) (hf : wFile f ≤ 1048576) (hr : aG r ≤ 1048576) : FnC Tryz.prog 133 [.o (.d (.sl (q.map aT))), bC f, .o (.d (.sl (r.map aH)))] (gT (mZ q f r false)) := by
 have hq1 : q.length ≤ bK q := by unfold bK; omega
 refine ent Tryz.func133 rfl Tryz.call133 rfl (fun C => ?_); simp only [go_sem, st0, Tryz.ntmps133]
 cases hv : okQ q
 ·have q0 := @hv; refine eZ (bP q (by omega)) ?_
  exact aA ⟨⟨_, rfl, by simp only [go_sem, mZ, hv, if_false, Bool.false_eq_true]⟩, trivial⟩
 ·have hl := iE hv
  have hx : (q.length : Int) - 1 = ((q.length - 1 : Nat) : Int) := by omega
  have q0 := @hv; have q1 := @hx; refine sI (bP q (by omega)) (a3m q f r hv hf hr q.length (q.length - 1) false (by omega) (by omega)) ?_
  exact aA ⟨⟨_, rfl, by simp only [go_sem, mZ, hv, if_true]⟩, trivial⟩
theorem sD (q : List TNode) (f : TFile) (r : List TResult) (hq : bK q ≤ 1048576) (hf : wFile f ≤ 1048576) (hr : aG r ≤ 1048576) : FnC Tryz.prog 141 [.o (.d (.sl (q.map aT))), bC f, .o (.d (.sl (r.map aH)))] (gT (mZ q f r false)) := lY (uP q f r hq hf hr) (by simp only [go_sem]) (by simp only [go_sem])
end Go.Proofs.YteaaopodnbjpoaaGreat
end
section
namespace Go.Proofs.YteaaopodnbjpoaaGreat
open Go Go.Sx Go.RowKit Go.Proofs Go.Sx.Clos
abbrev nmA (l : List TAttr) : List ByteArray := l.map TAttr.fName
theorem a8v (s : List TField) (l : List TAttr) : (List.range l.length).all (iC s l) = true ↔ (nmA l).Pairwise ltS ∧ ∀ x ∈ l, oV s x.fName x.fValue = true := by
 rw [List.all_eq_true]
 constructor
 ·intro h
  have h0 : ∀ k (hk : k < l.length), rP TAttr.fName l k = true ∧ oV s l[k].fName l[k].fValue = true := fun k hk => by
   have h1 := h k (List.mem_range.2 hk)
   unfold iC at h1
   rw [List.getElem?_eq_getElem hk] at h1
   simpa using h1
  have key : ∀ k (h0 : 0 < k) (hk : k < l.length), ltS l[k - 1].fName l[k].fName := fun k hp hk => by
   have h2 := (h0 k hk).1
   rw [kS TAttr.fName l k hp hk] at h2
   exact (pW _ _).1 h2
  have all : ∀ j, ∀ i (hi : i < j) (hj : j < l.length), ltS l[i].fName l[j].fName := by
   intro j
   induction j with
   | zero => intro i hi; omega
   | succ j ih =>
    intro i hi hj
    have h1 := key (j + 1) (by omega) hj
    simp only [Nat.add_sub_cancel] at h1
    by_cases e : i = j
    ·subst e; exact h1
    ·exact uN _ _ _ (ih i (by omega) (by omega)) h1
  refine ⟨List.pairwise_iff_getElem.2 fun i j hi hj hij => ?_, fun x hx => ?_⟩
  ·simp only [List.getElem_map]
   exact all j i hij (by simpa using hj)
  ·obtain ⟨k, hk, rfl⟩ := List.getElem_of_mem hx
   exact (h0 k hk).2
 ·rintro ⟨h1, h2⟩ k hk
  have hk := List.mem_range.1 hk
  unfold iC
  rw [List.getElem?_eq_getElem hk]
  simp only [Bool.and_eq_true]
  refine ⟨?_, h2 _ (List.getElem_mem hk)⟩
  by_cases hp : 0 < k
  ·rw [kS TAttr.fName l k hp hk]
   have := List.pairwise_iff_getElem.1 h1 (k - 1) k (by simp only [List.length_map]; omega) (by simpa using hk) (by omega)
   simp only [List.getElem_map] at this
   exact (pW _ _).2 this
  ·exact rQ TAttr.fName l k hp
theorem a8w {x y : TAttr} (p : TAttr → Bool) : ∀ (l : List TAttr), y ∈ eU (bW p l) x l ↔ y = x ∨ y ∈ l := by
 intro l
 unfold eU
 constructor
 ·intro h
  rcases List.mem_append.1 h with h | h
  ·exact .inr (List.mem_of_mem_take h)
  ·rcases List.mem_cons.1 h with h | h
   ·exact .inl h
   ·exact .inr (List.mem_of_mem_drop h)
 ·intro h
  rcases h with rfl | h
  ·exact List.mem_append.2 (.inr (List.mem_cons_self ..))
  ·have : y ∈ l.take (bW p l) ++ l.drop (bW p l) := by rw [List.take_append_drop]; exact h
   rcases List.mem_append.1 this with h | h
   ·exact List.mem_append.2 (.inl h)
   ·exact List.mem_append.2 (.inr (List.mem_cons_of_mem _ h))
theorem a5P (s : ByteArray) (v : TValue) : ∀ (l : List TAttr), (nmA l).Pairwise ltS → (∀ y ∈ l, y.fName ≠ s) → (nmA (eU (bW (eO s) l) ⟨s, v⟩ l)).Pairwise ltS
 | [], _, _ => by simp [eU, nmA]
 | y :: l, h, hn => by
  rw [nmA, List.map_cons, List.pairwise_cons] at h
  obtain ⟨h1, h2⟩ := h
  have hy := hn y (List.mem_cons_self ..)
  by_cases hlt : ltS y.fName s
  ·have hb : eO s y = false := by unfold eO; rw [(pW _ _).2 hlt]; rfl
   have e : bW (eO s) (y :: l) = bW (eO s) l + 1 := by rw [bW, hb]; rfl
   have ih := a5P s v l h2 (fun z hz => hn z (List.mem_cons_of_mem _ hz))
   have e2 : eU (bW (eO s) (y :: l)) ⟨s, v⟩ (y :: l) = y :: eU (bW (eO s) l) ⟨s, v⟩ l := by rw [e]; simp [eU]
   rw [e2, nmA, List.map_cons, List.pairwise_cons]
   refine ⟨fun n hm => ?_, ih⟩
   obtain ⟨z, hz, rfl⟩ := List.mem_map.1 hm
   rcases (a8w (eO s) l).1 hz with rfl | hz
   ·exact hlt
   ·exact h1 _ (List.mem_map.2 ⟨z, hz, rfl⟩)
  ·have hb : eO s y = true := by
    have h3 : gQ y.fName s = false := by
     cases hq : gQ y.fName s
     ·rfl
     ·exact absurd ((pW _ _).1 hq) hlt
    unfold eO; rw [h3]; simp [hy]
   have e : bW (eO s) (y :: l) = 0 := by unfold bW; rw [hb]; rfl
   have hsy := b2U hlt hy
   rw [e]
   simp only [eU, List.take_zero, List.drop_zero, List.nil_append, nmA, List.map_cons, List.pairwise_cons, List.mem_cons]
   refine ⟨fun n hm => ?_, h1, h2⟩
   rcases hm with rfl | hm
   ·exact hsy
   ·exact uN _ _ _ hsy (h1 n hm)
theorem a8x {s : ByteArray} {l : List TAttr} {y : TAttr} : y ∈ jO s l ↔ y ∈ l ∧ y.fName ≠ s := by
 unfold jO isName
 rw [List.mem_filter]
 simp
theorem a5Q (s : ByteArray) {l : List TAttr} (h : (nmA l).Pairwise ltS) : (nmA (jO s l)).Pairwise ltS := h.sublist (List.Sublist.map _ List.filter_sublist)
theorem b1U (s : ByteArray) (v : TValue) {l : List TAttr} (h : (nmA l).Pairwise ltS) : (nmA (a1S s v l)).Pairwise ltS := by
 unfold a1S
 split
 ·exact a5Q s h
 ·exact a5P s v _ (a5Q s h) fun y hy => (a8x.1 hy).2
theorem mem_setA {s : ByteArray} {v : TValue} {l : List TAttr} {y : TAttr} : y ∈ a1S s v l ↔ (y ∈ l ∧ y.fName ≠ s) ∨ (v.fKind ≠ 0 ∧ y = ⟨s, v⟩) := by
 unfold a1S
 split
 ·rename_i h; rw [a8x]; simp [h]
 ·rename_i h
  rw [a8w, a8x]
  constructor
  ·rintro (h1 | h1)
   ·exact .inr ⟨h, h1⟩
   ·exact .inl h1
  ·rintro (h1 | h1)
   ·exact .inr h1
   ·exact .inl h1.2
theorem a1Y : ∀ (e l : List TAttr), (nmA l).Pairwise ltS → (nmA (jB l e)).Pairwise ltS
 | [], _, h => h
 | x :: e, l, h => a1Y e _ (b1U x.fName x.fValue h)
theorem mem_apply : ∀ (e l : List TAttr) (y : TAttr), y ∈ jB l e → y ∈ l ∨ (y ∈ e ∧ y.fValue.fKind ≠ 0)
 | [], _, _, h => .inl h
 | x :: e, l, y, h => by
  rcases mem_apply e _ y h with h | h
  ·rcases mem_setA.1 h with h | ⟨h1, rfl⟩
   ·exact .inl h.1
   ·exact .inr ⟨List.mem_cons_self .., h1⟩
  ·exact .inr ⟨List.mem_cons_of_mem _ h.1, h.2⟩
theorem a5R : ∀ (e l : List TAttr) (y : TAttr), y ∈ l → (∀ x ∈ e, x.fName ≠ y.fName) → y ∈ jB l e
 | [], _, _, h, _ => h
 | x :: e, l, y, h, hn => a5R e _ y (mem_setA.2 (.inl ⟨h, fun e' => hn x (List.mem_cons_self ..) e'.symm⟩)) fun z hz => hn z (List.mem_cons_of_mem _ hz)
theorem a7h : ∀ (e l : List TAttr) (y : TAttr), (nmA e).Nodup → y ∈ e → y.fValue.fKind ≠ 0 → y ∈ jB l e
 | [], _, _, _, h, _ => by simp at h
 | x :: e, l, y, hd, h, hk => by
  rw [nmA, List.map_cons, List.nodup_cons] at hd
  rcases List.mem_cons.1 h with rfl | h
  ·exact a5R e _ y (mem_setA.2 (.inr ⟨hk, rfl⟩)) fun z hz e' => hd.1 (e' ▸ List.mem_map.2 ⟨z, hz, rfl⟩)
  ·exact a7h e _ y hd.2 h hk
theorem b7C {s : List TField} {f : TFile} {e e' : TEdit} (hf : eG s f = true) (hg : eG s (kN f e) = true) (hd : (nmA e.fSet).Nodup) (hs : ∀ x ∈ e'.fSet, x ∈ e.fSet) : eG s (kN f e') = true := by
 unfold eG at hf hg ⊢
 rw [Bool.and_eq_true] at hf hg ⊢
 have h1 := (a8v s f.fAttrs).1 hf.1
 have h2 := (a8v s (kN f e).fAttrs).1 hg.1
 refine ⟨(a8v s (kN f e').fAttrs).2 ⟨a1Y _ _ h1.1, fun x hx => ?_⟩, hf.2⟩
 rcases mem_apply _ _ x hx with h | ⟨h, hk⟩
 ·exact h1.2 x h
 ·exact h2.2 x (a7h _ _ x hd (hs x h) hk)
theorem yU (a : List TAttr) : ∀ (b l r : List TAttr), gM a l b = some r → (nmA l).Nodup → (nmA b).Nodup → (∀ x ∈ b, x.fName ∈ nmA l → kP a x = true) → (nmA r).Nodup
 | [], l, r, h, hl, _, _ => by unfold gM at h; cases h; exact hl
 | x :: b, l, r, h, hl, hb, hk => by
  rw [nmA, List.map_cons, List.nodup_cons] at hb
  unfold gM at h
  split at h
  ·cases h
  ·split at h
   ·exact yU a b l r h hl hb.2 fun y hy => hk y (List.mem_cons_of_mem _ hy)
   ·rename_i hnk
    have hx : x.fName ∉ nmA l := fun hm => hnk (hk x (List.mem_cons_self ..) hm)
    have hi : (nmA (eU (bW (fB x.fName) l) x l)).Nodup := by
     unfold eU
     rw [nmA, List.map_append, List.map_cons]
     have e : nmA l = (l.take (bW (fB x.fName) l)).map TAttr.fName ++ (l.drop (bW (fB x.fName) l)).map TAttr.fName := by rw [← List.map_append, List.take_append_drop]
     rw [e] at hl hx
     have hp : ((l.take (bW (fB x.fName) l)).map TAttr.fName ++ x.fName :: (l.drop (bW (fB x.fName) l)).map TAttr.fName).Perm (x.fName :: ((l.take (bW (fB x.fName) l)).map TAttr.fName ++ (l.drop (bW (fB x.fName) l)).map TAttr.fName)) := List.perm_middle
     exact hp.nodup_iff.2 (List.nodup_cons.2 ⟨hx, hl⟩)
    refine yU a b _ r h hi hb.2 fun y hy hm => ?_
    obtain ⟨z, hz, e⟩ := List.mem_map.1 hm
    rcases (a8w (fB x.fName) l).1 hz with rfl | hz
    ·exact absurd (List.mem_map.2 ⟨y, hy, e.symm⟩) hb.1
    ·exact hk y (List.mem_cons_of_mem _ hy) (List.mem_map.2 ⟨z, hz, e⟩)
theorem a8y {a b : TEdit} (ha : (nmA a.fSet).Nodup) (hb : (nmA b.fSet).Nodup) : (nmA (iO a b).fSet).Nodup := by
 unfold iO
 split
 ·split
  ·exact List.nodup_nil
  ·rename_i l h
   refine yU a.fSet b.fSet a.fSet l h ha hb fun x _ hm => ?_
   obtain ⟨z, hz, e⟩ := List.mem_map.1 hm
   unfold kP
   exact List.any_eq_true.2 ⟨z, hz, by simpa using e⟩
 ·exact List.nodup_nil
theorem b1V {a b : TEdit} (ha : (nmA a.fSet).Nodup) (hb : (nmA b.fSet).Nodup) : (nmA (uQ a b).fSet).Nodup := by
 unfold uQ
 repeat' split
 all_goals first | exact ha | exact hb | exact List.nodup_nil
theorem uO (q : List TNode) (f : TFile) (r : List TResult) : ∀ (k i : Nat) (b : Bool), (nmA (wt q f r k i b).fSet).Nodup
 | 0, _, _ => List.nodup_nil
 | k + 1, i, b => by
  unfold wt
  split
  ·exact List.nodup_nil
  ·rename_i n _
   repeat' split
   all_goals first | exact List.nodup_nil | exact uO q f r k _ _ | exact a8y (uO q f r k _ _) (uO q f r k _ _) | exact b1V (uO q f r k _ _) (uO q f r k _ _) | simp [nmA]
theorem b0v (q : List TNode) (f : TFile) (r : List TResult) (b : Bool) : (nmA (mZ q f r b).fSet).Nodup := by
 unfold mZ
 split
 ·exact uO ..
 ·exact List.nodup_nil
end Go.Proofs.YteaaopodnbjpoaaGreat
end
section
namespace Go.Proofs.YteaaopodnbjpoaaGreat
open Go Go.Sx Go.RowKit Go.Proofs Go.Lib
theorem a2C {P : Program} {ops : Array Oper} {o : Oper} {a : Act} {w : World} {K : Act → World → Prop} {Q : Exit → Act → World → Prop} {E : Prop}
    (hg : o.guard = none) (d x : Operand) (dT sT : TypeId) (hop : o.op = Op.call { callee := Callee.builtin Builtin.append, args := #[d, x], argTypes := #[dT, sT] })
    (v u : Value) (hd : a.eval d = v) (hx : a.eval x = u) {v' : Value} {w' : World} (hr : (Builtin.append_ #[dT, sT] o.type #[v, u]).run P w = .ok v' w') (hK : K (a.put o.dst v') w') :
    if Region.wanted o (yielded ops a.tmps) = true then Oper.wp P o a w K Q else E := by
 have hw : Region.wanted o (yielded ops a.tmps) = true := by simp [Region.wanted, hg]
 rw [if_pos hw]
 unfold Oper.wp
 simp [execOp, hop, resolve, invoke, builtin, hd, hx, hr, Result.andThen]
 exact hK
end Go.Proofs.YteaaopodnbjpoaaGreat
end
