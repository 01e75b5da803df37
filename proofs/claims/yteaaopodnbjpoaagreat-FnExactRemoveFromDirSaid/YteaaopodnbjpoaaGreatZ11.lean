/- Joined texts. -/
import Derived.Test.YteaaopodnbjpoaaGreatZ10
import Derived.Test.YteaaopodnbjpoaaGreatZ06
set_option linter.all false
section
set_option maxRecDepth 100000
set_option maxHeartbeats 4000000
namespace Go.Proofs.YteaaopodnbjpoaaGreat
open Go Go.Sx Go.RowKit Go.Proofs
theorem mJ (l : List TAttr) (hl : l.length ≤ 4300000) : FnC Tryz.prog 146 [.o (.d (.sl (l.map aJ)))] (.o (.w 117 4 (l.map aJ))) := by
 refine ent Tryz.func146 rfl Tryz.call146 rfl (fun C => ?_); simp only [go_sem, st0, Tryz.ntmps146]
 refine aD ?_
 intro b hb
 refine aD ?_
 refine cnd rfl (fun h1 => ?_) (fun h1 => ?_)
 ·have e := hb h1
  simp only [List.map_eq_nil_iff] at e
  subst e
  refine aD ?_
  exact aA ⟨⟨_, rfl, by simp only [go_sem]⟩, trivial⟩
 ·refine aD ?_
  exact aA ⟨⟨_, rfl, by simp only [go_sem, b2v]⟩, trivial⟩
theorem a0b (l : List TField) (hl : l.length ≤ 4300000) : FnC Tryz.prog 171 [.o (.d (.sl (l.map bM)))] (.o (.w 196 2 (l.map bM))) := by
 refine ent Tryz.func171 rfl Tryz.call171 rfl (fun C => ?_); simp only [go_sem, st0, Tryz.ntmps171]
 refine aD ?_
 intro b hb
 refine aD ?_
 refine cnd rfl (fun h1 => ?_) (fun h1 => ?_)
 ·have e := hb h1
  simp only [List.map_eq_nil_iff] at e
  subst e
  refine aD ?_
  exact aA ⟨⟨_, rfl, by simp only [go_sem]⟩, trivial⟩
 ·refine aD ?_
  exact aA ⟨⟨_, rfl, by simp only [go_sem, b2v]⟩, trivial⟩
theorem a7S (l : List TNode) (hl : l.length ≤ 4300000) : FnC Tryz.prog 227 [.o (.d (.sl (l.map aT)))] (.o (.w 158 7 (l.map aT))) := by
 refine ent Tryz.func227 rfl Tryz.call227 rfl (fun C => ?_); simp only [go_sem, st0, Tryz.ntmps227]
 refine aD ?_
 intro b hb
 refine aD ?_
 refine cnd rfl (fun h1 => ?_) (fun h1 => ?_)
 ·have e := hb h1
  simp only [List.map_eq_nil_iff] at e
  subst e
  refine aD ?_
  exact aA ⟨⟨_, rfl, by simp only [go_sem]⟩, trivial⟩
 ·refine aD ?_
  exact aA ⟨⟨_, rfl, by simp only [go_sem, b2v]⟩, trivial⟩
theorem nN (f : Nat) (c : List D) (p : TAttr → Bool) (l : List TAttr) (hf : ∀ s ∈ l, FnC Tryz.prog f [zZ s, .o (.q c)] (ob (p s))) (hl : l.length ≤ 8388608) : FnC Tryz.prog 261 [.o (.d (.sl (l.map aJ))), .o (.f f [c])] (oi (dI p l 0)) := by
 refine ent Tryz.func261 rfl Tryz.call261 rfl (fun C => ?_); simp only [go_sem, st0, Tryz.ntmps261]
 refine aD ?_
 refine aM (α := Nat) (fun k => [(8, oi k)]) (fun _ => []) (fun k => k ≤ l.length ∧ dI p l 0 = dI p (l.drop k) k) (fun k => l.length - k) 0 (fun _ => ?_) ?_ ?_ (fun k hk => ?_)
 ·simp only [go_sem]
 ·simp only [go_sem]; simp
 ·simp
 ·obtain ⟨hk, hq⟩ := hk
  simp only [go_sem]
  refine aD ?_
  refine cnd rfl (fun h => ?_) (fun h => ?_)
  ·simp only [decide_eq_true_eq, Int.ofNat_lt] at h
   have hd := List.drop_eq_getElem_cons h
   rw [hd, dI] at hq
   have q0 := @h; refine eZ (hf l[k] (List.getElem_mem h)) ?_
   refine cnd rfl (fun h2 => ?_) (fun h2 => ?_)
   ·refine aD ?_
    exact aA ⟨⟨_, rfl, by simp only [go_sem, hq, h2]⟩, trivial⟩
   ·refine aD ?_
    refine aC (k + 1) ?_ ?_ ?_
    ·simp only [go_sem]; simp
    ·rw [hq, h2]; exact ⟨h, by simp⟩
    ·omega
  ·simp only [decide_eq_false_iff_not] at h
   have e : k = l.length := by omega
   subst e
   simp only [List.drop_length, dI] at hq
   refine aD ?_
   exact aA ⟨⟨_, rfl, by simp only [go_sem, hq]⟩, trivial⟩
theorem a3u (f : Nat) (c : List D) (p : TDir → Bool) (l : List TDir) (hf : ∀ s ∈ l, FnC Tryz.prog f [a4J s, .o (.q c)] (ob (p s))) (hl : l.length ≤ 8388608) : FnC Tryz.prog 233 [.o (.d (.sl (l.map aS))), .o (.f f [c])] (oi (dI p l 0)) := by
 refine ent Tryz.func233 rfl Tryz.call233 rfl (fun C => ?_); simp only [go_sem, st0, Tryz.ntmps233]
 refine aD ?_
 refine aM (α := Nat) (fun k => [(8, oi k)]) (fun _ => []) (fun k => k ≤ l.length ∧ dI p l 0 = dI p (l.drop k) k) (fun k => l.length - k) 0 (fun _ => ?_) ?_ ?_ (fun k hk => ?_)
 ·simp only [go_sem]
 ·simp only [go_sem]; simp
 ·simp
 ·obtain ⟨hk, hq⟩ := hk
  simp only [go_sem]
  refine aD ?_
  refine cnd rfl (fun h => ?_) (fun h => ?_)
  ·simp only [decide_eq_true_eq, Int.ofNat_lt] at h
   have hd := List.drop_eq_getElem_cons h
   rw [hd, dI] at hq
   have q0 := @h; refine eZ (hf l[k] (List.getElem_mem h)) ?_
   refine cnd rfl (fun h2 => ?_) (fun h2 => ?_)
   ·refine aD ?_
    exact aA ⟨⟨_, rfl, by simp only [go_sem, hq, h2]⟩, trivial⟩
   ·refine aD ?_
    refine aC (k + 1) ?_ ?_ ?_
    ·simp only [go_sem]; simp
    ·rw [hq, h2]; exact ⟨h, by simp⟩
    ·omega
  ·simp only [decide_eq_false_iff_not] at h
   have e : k = l.length := by omega
   subst e
   simp only [List.drop_length, dI] at hq
   refine aD ?_
   exact aA ⟨⟨_, rfl, by simp only [go_sem, hq]⟩, trivial⟩
theorem a2n (f : Nat) (c : List D) (p : TFile → Bool) (l : List TFile) (hf : ∀ s ∈ l, FnC Tryz.prog f [bC s, .o (.q c)] (ob (p s))) (hl : l.length ≤ 8388608) : FnC Tryz.prog 229 [.o (.d (.sl (l.map bN))), .o (.f f [c])] (oi (dI p l 0)) := by
 refine ent Tryz.func229 rfl Tryz.call229 rfl (fun C => ?_); simp only [go_sem, st0, Tryz.ntmps229]
 refine aD ?_
 refine aM (α := Nat) (fun k => [(8, oi k)]) (fun _ => []) (fun k => k ≤ l.length ∧ dI p l 0 = dI p (l.drop k) k) (fun k => l.length - k) 0 (fun _ => ?_) ?_ ?_ (fun k hk => ?_)
 ·simp only [go_sem]
 ·simp only [go_sem]; simp
 ·simp
 ·obtain ⟨hk, hq⟩ := hk
  simp only [go_sem]
  refine aD ?_
  refine cnd rfl (fun h => ?_) (fun h => ?_)
  ·simp only [decide_eq_true_eq, Int.ofNat_lt] at h
   have hd := List.drop_eq_getElem_cons h
   rw [hd, dI] at hq
   have q0 := @h; refine eZ (hf l[k] (List.getElem_mem h)) ?_
   refine cnd rfl (fun h2 => ?_) (fun h2 => ?_)
   ·refine aD ?_
    exact aA ⟨⟨_, rfl, by simp only [go_sem, hq, h2]⟩, trivial⟩
   ·refine aD ?_
    refine aC (k + 1) ?_ ?_ ?_
    ·simp only [go_sem]; simp
    ·rw [hq, h2]; exact ⟨h, by simp⟩
    ·omega
  ·simp only [decide_eq_false_iff_not] at h
   have e : k = l.length := by omega
   subst e
   simp only [List.drop_length, dI] at hq
   refine aD ?_
   exact aA ⟨⟨_, rfl, by simp only [go_sem, hq]⟩, trivial⟩
end Go.Proofs.YteaaopodnbjpoaaGreat
end
section
set_option maxRecDepth 100000
namespace Go.Proofs.YteaaopodnbjpoaaGreat
open Go Go.Sx Go.RowKit Go.Proofs
theorem c0r {α : Type} (l : List α) : (l.all fun _ => true) = true := by simp
theorem yB (l : List Int) (hl : l.length ≤ 67108864) : FnC Tryz.prog 174 [.o (.d (.sl (l.map eQ)))] (.o (.w 3 1 (l.map eQ))) := by
 refine ent Tryz.func174 rfl Tryz.call174 rfl (fun C => ?_); simp only [go_sem, st0, Tryz.ntmps174]
 refine aD ?_
 intro b hb
 refine aD ?_
 refine cnd rfl (fun h1 => ?_) (fun h1 => ?_)
 ·have e := hb h1
  simp only [List.map_eq_nil_iff] at e
  subst e
  refine aD ?_
  exact aA ⟨⟨_, rfl, by simp only [go_sem]⟩, trivial⟩
 ·refine aD ?_
  exact aA ⟨⟨_, rfl, by simp only [go_sem, c0r]⟩, trivial⟩
end Go.Proofs.YteaaopodnbjpoaaGreat
end
section
set_option maxRecDepth 100000
set_option maxHeartbeats 4000000
namespace Go.Proofs.YteaaopodnbjpoaaGreat
open Go Go.Sx Go.RowKit Go.Proofs
theorem zL (f : TFile) (h : f.fAttrs.length ≤ 4300000) : FnC Tryz.prog 178 [bC f] (wX f) := by
 refine ent Tryz.func178 rfl Tryz.call178 rfl (fun C => ?_); simp only [go_sem, st0, Tryz.ntmps178]
 refine fK (mJ f.fAttrs h) ?_
 exact aA ⟨⟨_, rfl, by simp only [go_sem]⟩, trivial⟩
theorem a9D (x : TDir) (h : x.fQuery.length ≤ 4300000) : FnC Tryz.prog 173 [a4J x] (b8C x) := by
 refine ent Tryz.func173 rfl Tryz.call173 rfl (fun C => ?_); simp only [go_sem, st0, Tryz.ntmps173]
 refine fK (a7S x.fQuery h) ?_
 exact aA ⟨⟨_, rfl, by simp only [go_sem]⟩, trivial⟩
theorem a1s (f : TFile) (h : f.fAttrs.length ≤ 4300000) : FnC Tryz.prog 150 [bC f] (wX f) := by
 refine ent Tryz.func150 rfl Tryz.call150 rfl (fun C => ?_); simp only [go_sem, st0, Tryz.ntmps150]
 refine aD ?_
 exact aA ⟨⟨_, rfl, by simp only [go_sem]⟩, trivial⟩
theorem b1u (l : List TFile) (hl : cZ l ≤ 4300000) : FnC Tryz.prog 172 [.o (.d (.sl (l.map bN)))] (.o (.w 70 5 (l.map bN))) := by
 unfold cZ at hl
 refine ent Tryz.func172 rfl Tryz.call172 rfl (fun C => ?_); simp only [go_sem, st0, Tryz.ntmps172]
 refine aD ?_
 refine aM (α := Nat) (fun k => [(3, .o (.s 0)), (6, .o .u), (9, oi k)]) (fun k => [(0, .row 70 5 ((l.take k).map bN) true)]) (fun k => k ≤ l.length) (fun k => l.length - k) 0 (fun _ => ?_) ?_ ?_ (fun k hk => ?_)
 ·simp only [go_sem]
 ·simp only [go_sem]; simp
 ·simp
 ·simp only [go_sem]
  refine aD ?_
  refine cnd rfl (fun h1 => ?_) (fun h1 => ?_)
  ·simp only [decide_eq_true_eq, Int.ofNat_lt] at h1
   have hw := bB wFile l h1
   have hx : l[k].fAttrs.length ≤ 4300000 := by
    have e : l[k].fAttrs.length ≤ wFile l[k] := by unfold wFile aV; omega
    omega
   have ht := List.take_succ_eq_append_getElem h1
   have hn : (l.take k).length = k := by rw [List.length_take]; omega
   have q0 := @h1; have q1 := @hn; refine jZ (zL l[k] hx) ?_
   refine aC (k + 1) ?_ ?_ ?_
   ·simp only [go_sem, ht, List.map_append]; simp [bN]
   ·omega
   ·omega
  ·simp only [decide_eq_false_iff_not] at h1
   have e : k = l.length := by omega
   subst e
   refine aD ?_
   exact aA ⟨⟨_, rfl, by simp only [go_sem, List.take_length]⟩, trivial⟩
theorem a6Q (l : List TDir) (hl : aY l ≤ 4300000) : FnC Tryz.prog 100 [.o (.d (.sl (l.map aS)))] (.o (.w 73 2 (l.map aS))) := by
 unfold aY at hl
 refine ent Tryz.func100 rfl Tryz.call100 rfl (fun C => ?_); simp only [go_sem, st0, Tryz.ntmps100]
 refine aD ?_
 refine aM (α := Nat) (fun k => [(3, .o (.s 0)), (6, .o .u), (9, oi k)]) (fun k => [(0, .row 73 2 ((l.take k).map aS) true)]) (fun k => k ≤ l.length) (fun k => l.length - k) 0 (fun _ => ?_) ?_ ?_ (fun k hk => ?_)
 ·simp only [go_sem]
 ·simp only [go_sem]; simp
 ·simp
 ·simp only [go_sem]
  refine aD ?_
  refine cnd rfl (fun h1 => ?_) (fun h1 => ?_)
  ·simp only [decide_eq_true_eq, Int.ofNat_lt] at h1
   have hw := bB wDir l h1
   have hx : l[k].fQuery.length ≤ 4300000 := by
    have e : l[k].fQuery.length ≤ wDir l[k] := by unfold wDir bK; omega
    omega
   have ht := List.take_succ_eq_append_getElem h1
   have hn : (l.take k).length = k := by rw [List.length_take]; omega
   have q0 := @h1; have q1 := @hn; refine jZ (a9D l[k] hx) ?_
   refine aC (k + 1) ?_ ?_ ?_
   ·simp only [go_sem, ht, List.map_append]; simp [aS]
   ·omega
   ·omega
  ·simp only [decide_eq_false_iff_not] at h1
   have e : k = l.length := by omega
   subst e
   refine aD ?_
   exact aA ⟨⟨_, rfl, by simp only [go_sem, List.take_length]⟩, trivial⟩
theorem nM (s : TStore) (h : aL s ≤ 4300000) : FnC Tryz.prog 99 [cB s] (a0w s) := by
 have h1 : s.fSchema.length ≤ 4300000 := by unfold aL aN at h; omega
 have h2 : cZ s.fFiles ≤ 4300000 := by unfold aL at h; omega
 refine ent Tryz.func99 rfl Tryz.call99 rfl (fun C => ?_); simp only [go_sem, st0, Tryz.ntmps99]
 have qH := trivial; repeat' (with_reducible first | refine nY ?_ | (refine mX ?_; try simp only [go_sem]) | refine kD ?_ | (apply rE [2,5,9] [] [0,1,3,4,6,7] [0,1,3,4,6,7] ((.c 2 [] [3,4,6,7] (.c 5 [8] [6,7,8] (.c 9 [] [] .n .n) .n) .n)) (by simp only [go_sem]; rfl) (by simp only [go_sem]; rfl) (by simp only [go_sem]; rfl) (by decide +kernel); (focus simp only [go_sem]; done)) | exact bU | refine bF (uX ?_) ?_ | refine bG (aX ?_) ?_ | refine bH (aX ?_) ?_ | exact bE | exact oH | (refine uA ?_; simp only [go_sem]; (repeat' first | omega | refine And.intro ?_ ?_); done) | refine rD ?_ | refine cP (a0b s.fSchema h1) ?_ | refine cP (b1u s.fFiles h2) ?_ | refine aO ?_ | fail)
 exact aA ⟨⟨_, rfl, by simp only [go_sem]⟩, trivial⟩
theorem b5x (l : List TDir) (hl : aY l ≤ 4300000) : FnC Tryz.prog 78 [.o (.d (.sl (l.map aS)))] (.o (.w 73 2 (l.map aS))) := by
 unfold aY at hl
 refine ent Tryz.func78 rfl Tryz.call78 rfl (fun C => ?_); simp only [go_sem, st0, Tryz.ntmps78]
 refine aD ?_
 refine aM (α := Nat) (fun k => [(3, .o (.s 0)), (5, .o .u), (4, oi k)]) (fun k => [(0, .row 73 2 ((l.take k).map aS) true)]) (fun k => k ≤ l.length) (fun k => l.length - k) 0 (fun _ => ?_) ?_ ?_ (fun k hk => ?_)
 ·simp only [go_sem]
 ·simp only [go_sem]; simp
 ·simp
 ·simp only [go_sem]
  refine aD ?_
  refine cnd rfl (fun h1 => ?_) (fun h1 => ?_)
  ·simp only [decide_eq_true_eq, Int.ofNat_lt] at h1
   have hw := bB wDir l h1
   have hx : l[k].fQuery.length ≤ 4300000 := by
    have e : l[k].fQuery.length ≤ wDir l[k] := by unfold wDir bK; omega
    omega
   have hx1 : l[k].fQuery.length ≤ 140737488355328 := by omega
   have hx2 : l[k].fQuery.length * 72 ≤ 140737488355328 := by omega
   have ht := List.take_succ_eq_append_getElem h1
   have hn : (l.take k).length = k := by rw [List.length_take]; omega
   have qH := aI @h1 (aI @hn (aI @hx1 @hx2)); repeat' (with_reducible first | refine nY ?_ | (refine mX ?_; try simp only [go_sem, qH]) | refine kD ?_ | (apply rE [6,12,14,15,16] [16] [0,1,2,3,4,5,7,8,9,10,11] [0,1,2,3,4,5,7,8,9,10,11] ((.c 6 [] [0,1,2,3,4,5,7,8,9,10,11] (.c 12 [13] [0,1,2,3,4,5,13] (.c 14 [] [0] (.c 15 [] [] (.c 16 [] [] .n .n) .n) .n) .n) .n)) (by simp only [go_sem]; rfl) (by simp only [go_sem]; rfl) (by simp only [go_sem]; rfl) (by decide +kernel); (focus simp only [go_sem]; done)) | exact bU | refine bF (uX ?_) ?_ | refine bG (aX ?_) ?_ | refine bH (aX ?_) ?_ | exact bE | exact oH | exact uB | refine rD ?_ | refine aO ?_ | fail)
   refine aC (k + 1) ?_ ?_ ?_
   ·simp only [go_sem, ht, List.map_append]; simp [aS]
   ·omega
   ·omega
  ·simp only [decide_eq_false_iff_not] at h1
   have e : k = l.length := by omega
   subst e
   refine aD ?_
   exact aA ⟨⟨_, rfl, by simp only [go_sem, List.take_length]⟩, trivial⟩
theorem b3N (l : List TResult) (hl : aG l ≤ 4300000) : FnC Tryz.prog 79 [.o (.d (.sl (l.map aH)))] (.o (.w 141 2 (l.map aH))) := by
 unfold aG at hl
 refine ent Tryz.func79 rfl Tryz.call79 rfl (fun C => ?_); simp only [go_sem, st0, Tryz.ntmps79]
 refine aD ?_
 refine aM (α := Nat) (fun k => [(3, .o (.s 0)), (5, .o .u), (4, oi k)]) (fun k => [(0, .row 141 2 ((l.take k).map aH) true)]) (fun k => k ≤ l.length) (fun k => l.length - k) 0 (fun _ => ?_) ?_ ?_ (fun k hk => ?_)
 ·simp only [go_sem]
 ·simp only [go_sem]; simp
 ·simp
 ·simp only [go_sem]
  refine aD ?_
  refine cnd rfl (fun h1 => ?_) (fun h1 => ?_)
  ·simp only [decide_eq_true_eq, Int.ofNat_lt] at h1
   have hw := bB wResult l h1
   have hx : l[k].fIDs.length ≤ 4300000 := by
    have e : l[k].fIDs.length ≤ wResult l[k] := by unfold wResult; omega
    omega
   have hx1 : l[k].fIDs.length ≤ 140737488355328 := by omega
   have hx2 : l[k].fIDs.length * 8 ≤ 140737488355328 := by omega
   have ht := List.take_succ_eq_append_getElem h1
   have hn : (l.take k).length = k := by rw [List.length_take]; omega
   have qH := aI @h1 (aI @hn (aI @hx1 @hx2)); repeat' (with_reducible first | refine nY ?_ | (refine mX ?_; try simp only [go_sem, qH]) | refine kD ?_ | (apply rE [6,12,14,15,16] [16] [0,1,2,3,4,5,7,8,9,10,11] [0,1,2,3,4,5,7,8,9,10,11] ((.c 6 [] [0,1,2,3,4,5,7,8,9,10,11] (.c 12 [13] [0,1,2,3,4,5,13] (.c 14 [] [0] (.c 15 [] [] (.c 16 [] [] .n .n) .n) .n) .n) .n)) (by simp only [go_sem]; rfl) (by simp only [go_sem]; rfl) (by simp only [go_sem]; rfl) (by decide +kernel); (focus simp only [go_sem]; done)) | exact bU | refine bF (uX ?_) ?_ | refine bG (aX ?_) ?_ | refine bH (aX ?_) ?_ | exact bE | exact oH | exact uB | refine rD ?_ | refine aO ?_ | fail)
   refine aC (k + 1) ?_ ?_ ?_
   ·simp only [go_sem, ht, List.map_append]; simp [aH]
   ·omega
   ·omega
  ·simp only [decide_eq_false_iff_not] at h1
   have e : k = l.length := by omega
   subst e
   refine aD ?_
   exact aA ⟨⟨_, rfl, by simp only [go_sem, List.take_length]⟩, trivial⟩
theorem a7P (l : List TResult) (hl : aG l ≤ 4300000) : FnC Tryz.prog 101 [.o (.d (.sl (l.map aH)))] (.o (.w 141 2 (l.map aH))) := by
 unfold aG at hl
 refine ent Tryz.func101 rfl Tryz.call101 rfl (fun C => ?_); simp only [go_sem, st0, Tryz.ntmps101]
 refine aD ?_
 refine aM (α := Nat) (fun k => [(3, .o (.s 0)), (6, .o .u), (9, oi k)]) (fun k => [(0, .row 141 2 ((l.take k).map aH) true)]) (fun k => k ≤ l.length) (fun k => l.length - k) 0 (fun _ => ?_) ?_ ?_ (fun k hk => ?_)
 ·simp only [go_sem]
 ·simp only [go_sem]; simp
 ·simp
 ·simp only [go_sem]
  refine aD ?_
  refine cnd rfl (fun h1 => ?_) (fun h1 => ?_)
  ·simp only [decide_eq_true_eq, Int.ofNat_lt] at h1
   have hw := bB wResult l h1
   have hx : l[k].fIDs.length ≤ 67108864 := by
    have e : l[k].fIDs.length ≤ wResult l[k] := by unfold wResult; omega
    omega
   have ht := List.take_succ_eq_append_getElem h1
   have hn : (l.take k).length = k := by rw [List.length_take]; omega
   have qH := aI @h1 @hn; repeat' (with_reducible first | refine nY ?_ | (refine mX ?_; try simp only [go_sem, qH]) | refine kD ?_ | (apply rE [5,7,8,9] [9] [0,1,2,3,4] [0,1,2,3,4] ((.c 5 [6] [0,1,2,6] (.c 7 [] [0] (.c 8 [] [] (.c 9 [] [] .n .n) .n) .n) .n)) (by simp only [go_sem]; rfl) (by simp only [go_sem]; rfl) (by simp only [go_sem]; rfl) (by decide +kernel); (focus simp only [go_sem]; done)) | exact bU | refine bF (uX ?_) ?_ | refine bG (aX ?_) ?_ | refine bH (aX ?_) ?_ | exact bE | exact oH | exact uB | refine rD ?_ | refine cP (yB l[k].fIDs hx) ?_ | refine aO ?_ | fail)
   refine aC (k + 1) ?_ ?_ ?_
   ·simp only [go_sem, ht, List.map_append]; simp [aH]
   ·omega
   ·omega
  ·simp only [decide_eq_false_iff_not] at h1
   have e : k = l.length := by omega
   subst e
   refine aD ?_
   exact aA ⟨⟨_, rfl, by simp only [go_sem, List.take_length]⟩, trivial⟩
theorem gL (c : TCatalog) (h : wCatalog c ≤ 4300000) : FnC Tryz.prog 48 [bZ c] (mG c) := by
 unfold wCatalog at h
 refine ent Tryz.func48 rfl Tryz.call48 rfl (fun C => ?_); simp only [go_sem, st0, Tryz.ntmps48]
 have qH := trivial; repeat' (with_reducible first | refine nY ?_ | (refine mX ?_; try simp only [go_sem]) | refine kD ?_ | (apply rE [2,5,8,10] [] [0,1,3,4,6,7] [0,1,3,4,6,7] ((.c 2 [] [3,4,6,7] (.c 5 [] [6,7] (.c 8 [9] [9] (.c 10 [] [] .n .n) .n) .n) .n)) (by simp only [go_sem]; rfl) (by simp only [go_sem]; rfl) (by simp only [go_sem]; rfl) (by decide +kernel); (focus simp only [go_sem]; done)) | exact bU | refine bF (uX ?_) ?_ | refine bG (aX ?_) ?_ | refine bH (aX ?_) ?_ | exact bE | exact oH | (refine uA ?_; simp only [go_sem]; (repeat' first | omega | refine And.intro ?_ ?_); done) | refine rD ?_ | refine cP (nM c.fStore (by omega)) ?_ | refine cP (a6Q c.fDirs (by omega)) ?_ | refine cP (a7P c.fResults (by omega)) ?_ | refine aO ?_ | fail)
 exact aA ⟨⟨_, rfl, by simp only [go_sem]⟩, trivial⟩
theorem xZ (s : TStore) (h : aL s ≤ 4300000) : FnC Tryz.prog 77 [cB s] (a0w s) := by
 have h1 : s.fSchema.length ≤ 4300000 := by unfold aL aN at h; omega
 have h2 : s.fFiles.length + wsum wFile s.fFiles ≤ 4300000 := by unfold aL cZ at h; omega
 refine ent Tryz.func77 rfl Tryz.call77 rfl (fun C => ?_); simp only [go_sem, st0, Tryz.ntmps77]
 have qH := trivial; repeat' (with_reducible first | refine nY ?_ | (refine mX ?_; try simp only [go_sem]) | refine kD ?_ | (apply rE [0,3,7,8] [] [1,2,4,5] [1,2,4,5] ((.c 0 [] [1,2,4,5] (.c 3 [6] [4,5,6] (.c 7 [] [4,5,6] (.c 8 [] [] .n .n) .n) (.c 7 [] [1,2,4,5] (.c 3 [6] [4,5,6] (.c 8 [] [] .n .n) .n) .n)) (.c 7 [] [1,2,4,5] (.c 0 [] [1,2,4,5] (.c 3 [6] [4,5,6] (.c 8 [] [] .n .n) .n) .n) .n))) (by simp only [go_sem]; rfl) (by simp only [go_sem]; rfl) (by simp only [go_sem]; rfl) (by decide +kernel); (focus simp only [go_sem]; done)) | exact bU | refine bF (uX ?_) ?_ | refine bG (aX ?_) ?_ | refine bH (aX ?_) ?_ | exact bE | (refine dB [(2, 3)] (by simp only [go_sem]; rfl) ?_; exact rfl) | exact oH | (refine uA ?_; simp only [go_sem]; (repeat' first | omega | refine And.intro ?_ ?_); done) | refine rD ?_ | refine aO ?_ | fail)
 refine a7m 3 1 70 5 rfl rfl ?_
 simp only [go_sem]
 refine aM (α := Nat) (fun k => [(4, oi k)]) (fun k => [(4, .row 70 5 ((s.fFiles.take k).map bN) true)]) (fun k => k ≤ s.fFiles.length) (fun k => s.fFiles.length - k) 0 (fun _ => ?_) ?_ ?_ (fun k hk => ?_)
 ·simp only [go_sem]
 ·simp only [go_sem]; simp
 ·simp
 ·simp only [go_sem]
  refine aD ?_
  refine cnd rfl (fun h1 => ?_) (fun h1 => ?_)
  ·simp only [decide_eq_true_eq, Int.ofNat_lt] at h1
   have hw := bB wFile s.fFiles h1
   have hx : s.fFiles[k].fAttrs.length ≤ 4300000 := by
    have e : s.fFiles[k].fAttrs.length ≤ wFile s.fFiles[k] := by unfold wFile aV; omega
    omega
   have ht := List.take_succ_eq_append_getElem h1
   have hn : (s.fFiles.take k).length = k := by rw [List.length_take]; omega
   have qH := aI @h1 @hn; repeat' (with_reducible first | refine nY ?_ | (refine mX ?_; try simp only [go_sem, qH]) | refine kD ?_ | (apply rE [7,8,9,11] [] [0,1,2,3,4,5,6] [0,1,2,3,4,5,6] ((.c 7 [] [0,1] (.c 8 [] [0,1] (.c 9 [10] [10] (.c 11 [] [] .n .n) .n) .n) .n)) (by simp only [go_sem]; rfl) (by simp only [go_sem]; rfl) (by simp only [go_sem]; rfl) (by decide +kernel); (focus simp only [go_sem]; done)) | exact bU | refine bF (uX ?_) ?_ | refine bG (aX ?_) ?_ | refine bH (aX ?_) ?_ | exact bE | exact oH | exact uB | refine rD ?_ | refine cP (a1s s.fFiles[k] hx) ?_ | refine aO ?_ | fail)
   refine aC (k + 1) ?_ ?_ ?_
   ·simp only [go_sem, ht, List.map_append]; simp [bN]
   ·omega
   ·omega
  ·simp only [decide_eq_false_iff_not] at h1
   have e : k = s.fFiles.length := by omega
   subst e
   refine aD ?_
   exact aA ⟨⟨_, rfl, by simp only [go_sem, List.take_length]⟩, trivial⟩
theorem b5y (c : TCatalog) (h : wCatalog c ≤ 4300000) : FnC Tryz.prog 39 [bZ c] (mG c) := by
 unfold wCatalog at h
 refine ent Tryz.func39 rfl Tryz.call39 rfl (fun C => ?_); simp only [go_sem, st0, Tryz.ntmps39]
 have qH := trivial; repeat' (with_reducible first | refine nY ?_ | (refine mX ?_; try simp only [go_sem]) | refine kD ?_ | (apply rE [2,5,8,10] [] [0,1,3,4,6,7] [0,1,3,4,6,7] ((.c 2 [] [3,4,6,7] (.c 5 [] [6,7] (.c 8 [9] [9] (.c 10 [] [] .n .n) .n) .n) .n)) (by simp only [go_sem]; rfl) (by simp only [go_sem]; rfl) (by simp only [go_sem]; rfl) (by decide +kernel); (focus simp only [go_sem]; done)) | exact bU | refine bF (uX ?_) ?_ | refine bG (aX ?_) ?_ | refine bH (aX ?_) ?_ | exact bE | exact oH | (refine uA ?_; simp only [go_sem]; (repeat' first | omega | refine And.intro ?_ ?_); done) | refine rD ?_ | refine cP (xZ c.fStore (by omega)) ?_ | refine cP (b5x c.fDirs (by omega)) ?_ | refine cP (b3N c.fResults (by omega)) ?_ | refine aO ?_ | fail)
 exact aA ⟨⟨_, rfl, by simp only [go_sem]⟩, trivial⟩
theorem b1f (id : Int) (x : TFile) : FnC Tryz.prog 230 [bC x, .o (.q [iv id])] (ob (decide (x.fID = id))) := by
 refine ent Tryz.func230 rfl Tryz.call230 rfl (fun C => ?_); simp only [go_sem, st0, Tryz.ntmps230]
 refine aD ?_
 exact aA ⟨⟨_, rfl, by simp only [go_sem]⟩, trivial⟩
theorem zB (s : TStore) (id : Int) (hl : s.fFiles.length ≤ 4300000) : FnC Tryz.prog 177 [cB s, oi id] (oi (ixF id s.fFiles)) := by
 refine ent Tryz.func177 rfl Tryz.call177 rfl (fun C => ?_); simp only [go_sem, st0, Tryz.ntmps177]
 refine fK (a2n _ _ (fun x => decide (x.fID = id)) s.fFiles (fun y _ => b1f id y) (by omega)) ?_
 exact aA ⟨⟨_, rfl, by simp only [go_sem, ixF]⟩, trivial⟩
theorem rM (s : TStore) (id : Int) (hl : s.fFiles.length ≤ 4300000) : FnC Tryz.prog 156 [cB s, oi id] (oi (ixF id s.fFiles)) := by
 refine ent Tryz.func156 rfl Tryz.call156 rfl (fun C => ?_); simp only [go_sem, st0, Tryz.ntmps156]
 refine aD ?_
 refine aM (α := Nat) (fun k => [(5, oi k)]) (fun _ => []) (fun k => k ≤ s.fFiles.length ∧ ixF id s.fFiles = dI (fun f => decide (f.fID = id)) (s.fFiles.drop k) k) (fun k => s.fFiles.length - k) 0 (fun _ => ?_) ?_ ?_ (fun k hk => ?_)
 ·simp only [go_sem]
 ·simp only [go_sem]; simp
 ·simp [ixF]
 ·obtain ⟨hk, hq⟩ := hk
  simp only [go_sem]
  refine aD ?_
  refine cnd rfl (fun h => ?_) (fun h => ?_)
  ·simp only [decide_eq_true_eq, Int.ofNat_lt] at h
   have hd := List.drop_eq_getElem_cons h
   rw [hd, dI] at hq
   by_cases h2 : s.fFiles[k].fID = id
   ·rw [if_pos (by simp [h2])] at hq
    have q0 := @h; have q1 := @h2; have q2 := @decide_true; refine lT ?_
    exact aA ⟨⟨_, rfl, by simp only [go_sem, hq]⟩, trivial⟩
   ·rw [if_neg (by simp [h2])] at hq
    have q0 := @h; have q1 := @h2; have q2 := @decide_false; refine lT ?_
    refine aC (k + 1) ?_ ?_ ?_
    ·simp only [go_sem]; simp
    ·rw [hq]; exact ⟨h, by simp⟩
    ·omega
  ·simp only [decide_eq_false_iff_not] at h
   have e : k = s.fFiles.length := by omega
   subst e
   simp only [List.drop_length, dI] at hq
   refine aD ?_
   exact aA ⟨⟨_, rfl, by simp only [go_sem, hq]⟩, trivial⟩
theorem a9q (s : TStore) (id : Int) (h : aL s ≤ 4300000) : FnC Tryz.prog 104 [cB s, oi id] (.t [(true, (wX (dJ id s.fFiles)).cells), (false, [.d (bv (decide (0 ≤ ixF id s.fFiles)))])]) := by
 have hl : s.fFiles.length ≤ 4300000 := by unfold aL cZ at h; omega
 refine ent Tryz.func104 rfl Tryz.call104 rfl (fun C => ?_); simp only [go_sem, st0, Tryz.ntmps104]
 rcases ixF_cases id s.fFiles with e | ⟨p, e, hp, _⟩
 ·have e1 := a4v e
  have hz : ¬ (0 : Int) ≤ -1 := by omega
  have hk := zB s id hl
  rw [e] at hk
  have q0 := @hz; have q1 := @decide_false; refine jZ hk ?_
  exact aA ⟨⟨_, rfl, by simp only [go_sem, e, e1, hz, decide_false, zF, List.map_nil]; try simp⟩, by simp [aU]⟩
 ·have e1 := zC e hp
  have hz : (0 : Int) ≤ (p : Int) := by omega
  have hw := bB wFile s.fFiles hp
  have hx : s.fFiles[p].fAttrs.length ≤ 4300000 := by
   have e : s.fFiles[p].fAttrs.length ≤ wFile s.fFiles[p] := by unfold wFile aV; omega
   unfold aL cZ at h; omega
  have hk := zB s id hl
  rw [e] at hk
  have q0 := @hz; have q1 := @hp; have q2 := @decide_true; have q3 := @Int.toNat_natCast; refine a1a hk (zL s.fFiles[p] hx) ?_
  exact aA ⟨⟨_, rfl, by simp only [go_sem, e, e1, hz, decide_true]; try simp⟩, by simp [aU]⟩
theorem a9r (s : TStore) (id : Int) (h : aL s ≤ 4300000) : FnC Tryz.prog 84 [cB s, oi id] (.t [(true, (wX (dJ id s.fFiles)).cells), (false, [.d (bv (decide (0 ≤ ixF id s.fFiles)))])]) := by
 have hl : s.fFiles.length ≤ 4300000 := by unfold aL cZ at h; omega
 refine ent Tryz.func84 rfl Tryz.call84 rfl (fun C => ?_); simp only [go_sem, st0, Tryz.ntmps84]
 rcases ixF_cases id s.fFiles with e | ⟨p, e, hp, _⟩
 ·have e1 := a4v e
  have hz : ¬ (0 : Int) ≤ -1 := by omega
  have hy : (-1 : Int) < 0 := by omega
  have hk := rM s id hl
  rw [e] at hk
  have q0 := @hy; have q1 := @decide_true; refine jZ hk ?_
  exact aA ⟨⟨_, rfl, by simp only [go_sem, e, e1, hz, decide_false, zF, List.map_nil]; try simp⟩, by simp [aU]⟩
 ·have e1 := zC e hp
  have hz : (0 : Int) ≤ (p : Int) := by omega
  have hy : ¬ (p : Int) < 0 := by omega
  have hw := bB wFile s.fFiles hp
  have hx : s.fFiles[p].fAttrs.length ≤ 4300000 := by
   have e : s.fFiles[p].fAttrs.length ≤ wFile s.fFiles[p] := by unfold wFile aV; omega
   unfold aL cZ at h; omega
  have hk := rM s id hl
  rw [e] at hk
  have q0 := @hy; have q1 := @hp; have q2 := @decide_false; have q3 := @Int.toNat_natCast; refine a1a hk (a1s s.fFiles[p] hx) ?_
  exact aA ⟨⟨_, rfl, by simp only [go_sem, e, e1, hz, decide_true]; try simp⟩, by simp [aU]⟩
theorem qN (s : TStore) (f : TFile) (hs : aL s ≤ 4300000) (hf : wFile f ≤ 4300000) : FnC Tryz.prog 179 [cB s, bC f] (.t [(true, (a0w (jH s f)).cells), (false, [.d (bv (iP s f))])]) := by
 have h1 : aN s.fSchema ≤ 4300000 := by unfold aL at hs; omega
 have h2 : s.fFiles.length ≤ 4300000 := by unfold aL cZ at hs; omega
 have h3 : f.fAttrs.length ≤ 4300000 := by unfold wFile aV at hf; omega
 have hk := zB s f.fID h2
 refine ent Tryz.func179 rfl Tryz.call179 rfl (fun C => ?_); simp only [go_sem, st0, Tryz.ntmps179]
 cases hv : dC s
 ·have e : iP s f = false := by simp [iP, hv]
  have q0 := @hv; refine b9l (nM s hs) hk (fU s hs) ?_
  exact aA ⟨⟨_, rfl, by simp only [go_sem, jH, e]; try simp⟩, by simp [aU]⟩
 rcases ixF_cases f.fID s.fFiles with ei | ⟨p, ei, hp, _⟩
 ·have e : iP s f = false := by simp [iP, ei]
  have hy : (-1 : Int) < 0 := by omega
  rw [ei] at hk
  have q0 := @hv; have q1 := @hy; have q2 := @decide_true; refine b8s (nM s hs) hk (fU s hs) ?_
  exact aA ⟨⟨_, rfl, by simp only [go_sem, jH, e]; try simp⟩, by simp [aU]⟩
 have hy : ¬ (p : Int) < 0 := by omega
 rw [ei] at hk
 cases ho : eG s.fSchema f
 ·have e : iP s f = false := by simp [iP, ho]
  have q0 := @hv; have q1 := @hy; have q2 := @ho; have q3 := @decide_false; refine b8t (nM s hs) hk (fU s hs) (jE s.fSchema f h1 hf) ?_
  exact aA ⟨⟨_, rfl, by simp only [go_sem, jH, e]; try simp⟩, by simp [aU]⟩
 ·have e : iP s f = true := by simp [iP, hv, ei, ho]
  have qH := aI @hv (aI @hy (aI @ho (aI @hp (aI @decide_false (aI @Int.toNat_natCast @b3w))))); repeat' (with_reducible first | refine nY ?_ | (refine mX ?_; try simp only [go_sem, qH]) | refine kD ?_ | (apply rE [4,6] [] [0,1,2,3] [0,1,2,3] ((.c 4 [5] [0,1,2,5] (.c 6 [] [] .n .n) .n)) (by simp only [go_sem]; rfl) (by simp only [go_sem]; rfl) (by simp only [go_sem]; rfl) (by decide +kernel); (focus simp only [go_sem]; done)) | exact bU | refine bF (uX ?_) ?_ | refine bG (aX ?_) ?_ | refine bH (aX ?_) ?_ | exact bE | exact oH | exact uB | refine rD ?_ | refine cP (nM s hs) ?_ | refine cP hk ?_ | refine cP (fU s hs) ?_ | refine cP (jE s.fSchema f h1 hf) ?_ | refine cP (zL f h3) ?_ | refine aO ?_ | fail)
  exact aA ⟨⟨_, rfl, by simp only [go_sem, jH, e, ei, Int.toNat_natCast, if_true, List.map_set]; try simp [bN]⟩, by simp [aU]⟩
theorem a4u (s : TStore) (f : TFile) (hs : aL s ≤ 4300000) (hf : wFile f ≤ 4300000) : FnC Tryz.prog 137 [cB s, bC f] (.t [(true, (a0w (jH s f)).cells), (false, [.d (bv (iP s f))])]) := by
 have h1 : aN s.fSchema ≤ 4300000 := by unfold aL at hs; omega
 have h2 : s.fFiles.length ≤ 4300000 := by unfold aL cZ at hs; omega
 have h3 : f.fAttrs.length ≤ 4300000 := by unfold wFile aV at hf; omega
 have hk := rM s f.fID h2
 refine ent Tryz.func137 rfl Tryz.call137 rfl (fun C => ?_); simp only [go_sem, st0, Tryz.ntmps137]
 cases hv : dC s
 ·have e : iP s f = false := by simp [iP, hv]
  have qH := @hv; repeat' (with_reducible first | refine nY ?_ | (refine mX ?_; try simp only [go_sem, qH]) | refine kD ?_ | refine rD ?_ | refine cP (xZ s hs) ?_ | refine vR hk ?_ | refine vD hk ?_ | refine vR (dP s hs) ?_ | refine vD (dP s hs) ?_ | refine aO ?_ | fail)
  exact aA ⟨⟨_, rfl, by simp only [go_sem, jH, e]; try simp⟩, by simp [aU]⟩
 rcases ixF_cases f.fID s.fFiles with ei | ⟨p, ei, hp, _⟩
 ·have e : iP s f = false := by simp [iP, ei]
  have hy : (-1 : Int) < 0 := by omega
  rw [ei] at hk
  have qH := aI @hv (aI @hy @decide_true); repeat' (with_reducible first | refine nY ?_ | (refine mX ?_; try simp only [go_sem, qH]) | refine kD ?_ | refine rD ?_ | refine cP (xZ s hs) ?_ | refine vR hk ?_ | refine vD hk ?_ | refine vR (dP s hs) ?_ | refine vD (dP s hs) ?_ | refine aO ?_ | fail)
  exact aA ⟨⟨_, rfl, by simp only [go_sem, jH, e]; try simp⟩, by simp [aU]⟩
 have hy : ¬ (p : Int) < 0 := by omega
 rw [ei] at hk
 cases ho : eG s.fSchema f
 ·have e : iP s f = false := by simp [iP, ho]
  have qH := aI @hv (aI @hy (aI @ho @decide_false)); repeat' (with_reducible first | refine nY ?_ | (refine mX ?_; try simp only [go_sem, qH]) | refine kD ?_ | refine rD ?_ | refine cP (xZ s hs) ?_ | refine vR hk ?_ | refine vD hk ?_ | refine vR (dP s hs) ?_ | refine vD (dP s hs) ?_ | refine vR (gF s.fSchema f h1 hf) ?_ | refine vD (gF s.fSchema f h1 hf) ?_ | refine aO ?_ | fail)
  exact aA ⟨⟨_, rfl, by simp only [go_sem, jH, e]; try simp⟩, by simp [aU]⟩
 ·have e : iP s f = true := by simp [iP, hv, ei, ho]
  have qH := aI @hv (aI @hy (aI @ho (aI @hp (aI @decide_false (aI @Int.toNat_natCast @b3w))))); repeat' (with_reducible first | refine nY ?_ | (refine mX ?_; try simp only [go_sem, qH]) | refine kD ?_ | (apply rE [4,6] [] [0,1,2,3] [0,1,2,3] ((.c 4 [5] [0,1,2,5] (.c 6 [] [] .n .n) .n)) (by simp only [go_sem]; rfl) (by simp only [go_sem]; rfl) (by simp only [go_sem]; rfl) (by decide +kernel); (focus simp only [go_sem]; done)) | exact bU | refine bF (uX ?_) ?_ | refine bG (aX ?_) ?_ | refine bH (aX ?_) ?_ | exact bE | exact oH | exact uB | refine rD ?_ | refine cP (xZ s hs) ?_ | refine vR hk ?_ | refine vG hk ?_ | refine vR (dP s hs) ?_ | refine vG (dP s hs) ?_ | refine vR (gF s.fSchema f h1 hf) ?_ | refine vG (gF s.fSchema f h1 hf) ?_ | refine cP (a1s f h3) ?_ | refine aO ?_ | fail)
  exact aA ⟨⟨_, rfl, by simp only [go_sem, jH, e, ei, Int.toNat_natCast, if_true, List.map_set]; try simp [bN]⟩, by simp [aU]⟩
end Go.Proofs.YteaaopodnbjpoaaGreat
end
section
set_option maxRecDepth 100000
set_option maxHeartbeats 4000000
namespace Go.Proofs.YteaaopodnbjpoaaGreat
open Go Go.Sx Go.RowKit Go.Proofs Go.Lib
set_option maxHeartbeats 4000000 in
set_option maxRecDepth 1000000 in
theorem a9K (b cap : Nat) (xs : List Int) (w : World) (p : Int → Bool) (g : Nat) (lb : Array Value) (hR : RowAt w w b 3 cap (xs.map (Value.int .i64))) (hn : xs.length ≤ cap) (hbig : cap ≤ 9223372036854775807) (k : Int)
    (hk : (k = -1 ∧ ∀ x ∈ xs, p x = false) ∨ ∃ k0 : Nat, k = k0 ∧ ∃ h : k0 < xs.length, p xs[k0] = true ∧ ∀ j (hj : j < xs.length), j < k0 → p xs[j] = false)
    (eg : ∀ args w, (callFunc g args).run Tryz.prog w = .ok (.enter g args) w)
    (hIF : Calls Tryz.prog 287 #[.slice (some ⟨b, 0, none⟩) xs.length cap, .func (.func g) #[] lb] w fun e w' => e = .returned (.int .i64 k) ∧ Below w.heap.size w w')
    (hp : ∀ W F x, x ∈ xs → RowAt w W b 3 cap F → Calls Tryz.prog g (#[.int .i64 x] ++ lb) W fun e w' => e = .returned (.bool (p x)) ∧ Below W.heap.size W w') :
    Calls Tryz.prog 242 #[.slice (some ⟨b, 0, none⟩) xs.length cap, .func (.func g) #[] lb] w fun e w' =>
     e = .returned (.slice (some ⟨b, 0, none⟩) (xs.filter fun x => !p x).length cap) ∧ ∃ G, RowAt w w' b 3 cap ((xs.filter fun x => !p x).map (Value.int .i64) ++ G) := by
 have e6 := Tryz.call287
 rcases hk with ⟨rfl, hall⟩ | ⟨k0, rfl, hk0, ht, hall⟩
 ·have hkeep : (xs.filter fun x => !p x) = xs := List.filter_eq_self.2 fun x hx => by rw [hall x hx]; rfl
  rw [hkeep]
  have HR : Aside (RowAt w w b 3 cap (xs.map (Value.int .i64))) := hR
  clear hR hp
  go_enter Tryz.func242, Tryz.ntmps242
  go_wp2_with fail
  refine hIF.mono ?_
  rintro e w' ⟨rfl, hb⟩
  go_wp2
  go_ret
  exact ⟨rfl, [], by simpa using HR.out.behind hb⟩
 ·have hne1 : ((k0 : Int) == -1) = false := beq_eq_false_iff_ne.2 (by omega)
  have HS : Aside (DelInv (Value.int .i64) p xs k0 (k0 + 1) (xs.map (Value.int .i64))) := DelInv.start hk0 hall ht
  have HR : Aside (RowAt w w b 3 cap (xs.map (Value.int .i64))) := hR
  have HC : Aside _ := hp
  clear hR hp ht hall
  go_enter Tryz.func242, Tryz.ntmps242
  go_wp2_with fail
  refine hIF.mono ?_
  rintro e w' ⟨rfl, hb⟩
  go_wp2
  go_loopg [5, 6, 7] xs.length (fun gg s5 s6 _ wr => ∃ (i j : Nat) (F : List Value), s5 = .int .i64 i ∧ s6 = .int .i64 j ∧ j ≤ xs.length ∧ xs.length - j ≤ gg ∧ Aside (RowAt w wr b 3 cap F) ∧ Aside (DelInv (Value.int .i64) p xs i j F))
  case atStart => exact ⟨k0, k0 + 1, _, rfl, by go_num, by omega, by omega, HR.out.behind hb, HS⟩
  case round =>
   obtain ⟨i, j, F, rfl, rfl, hjd, hgg, R2, I2⟩ := hrel
   have hI := I2.out
   have hlF := hI.len
   have hij := hI.ij
   by_cases hlt : j < xs.length
   ·have hltz : (j : Int) < (xs.length : Int) := by omega
    have cj : wr.cell? ⟨b, j, none⟩ = some (.int .i64 xs[j]) := R2.out.cell (hI.at hlt)
    have hcall := HC.out wr F xs[j] (List.getElem_mem hlt) R2.out
    generalize hu : xs[j] = u at cj hcall
    have C : Aside (xs[j] = u) := hu
    clear hu hI
    cases hq : p u with
    | false =>
     rw [hq] at hcall
     go_wp2_with fail
     refine hcall.mono ?_
     rintro e w'' ⟨rfl, hb'⟩
     have R3 := R2.out.behind hb'
     have ci := R3.cell (List.getElem?_eq_getElem (show i < F.length by omega))
     have fi := R3.frozen i
     have A3 : Aside (RowAt w w'' b 3 cap F) := R3
     clear R3
     generalize F[i] = old at ci
     go_wp2
     go_roundg (xs.length - (j + 1))
     case measure => omega
     case rel =>
      refine ⟨i + 1, j + 1, F.take i ++ [.int .i64 u] ++ F.drop (i + 1), by go_num, by go_num, by omega, Nat.le_refl _, (show Aside _ from ?_), (show Aside _ from ?_)⟩
      ·exact A3.out.set [.int .i64 u] (by omega) (by simp; omega)
      ·have := I2.out.keep hlt (by rw [C.out]; exact hq)
       rwa [C.out] at this
    | true =>
     rw [hq] at hcall
     go_wp2_with fail
     refine hcall.mono ?_
     rintro e w'' ⟨rfl, hb'⟩
     go_wp2
     go_roundg (xs.length - (j + 1))
     case measure => omega
     case rel => exact ⟨i, j + 1, F, rfl, by go_num, by omega, Nat.le_refl _, R2.out.behind hb', I2.out.skip hlt (by rw [C.out]; exact hq)⟩
   ·obtain rfl : j = xs.length := by omega
    have hltz : ¬ (xs.length : Int) < (xs.length : Int) := by omega
    have hRN := R2.out.le
    have hcl : ∀ ty, (Builtin.clear_ #[31] ty #[.slice (some ⟨b, i, none⟩) (xs.length - i) (cap - i)]).run Tryz.prog wr = .ok (.tuple #[]) (wr.setCells b i (List.replicate (xs.length - i) (.int .i64 0))) :=
     fun ty => Lib.run_clear_slice wr _ _ ty _ Tryz.underlying31 (fun w => Tryz.zeroValue3 w) rfl rfl b i _ _ (by omega) (fun t ht => R2.out.there (by omega)) (fun t ht => R2.out.frozen _)
    have hle : ((xs.take xs.length).filter fun x => !p x) = xs.filter fun x => !p x := by rw [List.take_length]
    have hil := hI.il
    have hlo := hI.lo
    rw [hle] at hil hlo
    have HE : Aside (∃ G, RowAt w (wr.setCells b i (List.replicate (xs.length - i) (.int .i64 0))) b 3 cap ((xs.filter fun x => !p x).map (Value.int .i64) ++ G)) := by
     have := R2.out.set (List.replicate (xs.length - i) (Value.int .i64 0)) (s := i) (by omega) (by simp; omega)
     rw [hlo, List.append_assoc] at this
     exact ⟨_, this⟩
    have HL : Aside (i = (xs.filter fun x => !p x).length) := hil
    clear hil hlo hle hI
    go_wp2
    go_ret
    exact ⟨by rw [← HL.out]; rfl, HE.out⟩
set_option maxHeartbeats 4000000 in
set_option maxRecDepth 1000000 in
theorem a2Q (ao : Option Addr) (n cap : Nat) (w : World) (g : Nat) (lb : Array Value)
    (hIF : Calls Tryz.prog 287 #[.slice ao n cap, .func (.func g) #[] lb] w fun e w' => e = .returned (.int .i64 (-1)) ∧ Below w.heap.size w w') :
    Calls Tryz.prog 242 #[.slice ao n cap, .func (.func g) #[] lb] w fun e w' => e = .returned (.slice ao n cap) ∧ Below w.heap.size w w' := by
 have e6 := Tryz.call287
 go_enter Tryz.func242, Tryz.ntmps242
 go_wp2_with fail
 refine hIF.mono ?_
 rintro e w' ⟨rfl, hb⟩
 go_wp2
 go_ret
 exact ⟨rfl, hb⟩
theorem a6g (f : Nat) (c : List D) (p : Int → Bool) (l : List Int) (hf : ∀ s ∈ l, FnC Tryz.prog f [oi s, .o (.q c)] (ob (p s))) (hl : l.length ≤ 67108864) : FnC Tryz.prog 287 [.o (.d (.sl (l.map eQ))), .o (.f f [c])] (oi (dI p l 0)) := by
 refine ent Tryz.func287 rfl Tryz.call287 rfl (fun C => ?_); simp only [go_sem, st0, Tryz.ntmps287]
 refine aD ?_
 refine aM (α := Nat) (fun k => [(8, oi k)]) (fun _ => []) (fun k => k ≤ l.length ∧ dI p l 0 = dI p (l.drop k) k) (fun k => l.length - k) 0 (fun _ => ?_) ?_ ?_ (fun k hk => ?_)
 ·simp only [go_sem]
 ·simp only [go_sem]; simp
 ·simp
 ·obtain ⟨hk, hq⟩ := hk
  simp only [go_sem]
  refine aD ?_
  refine cnd rfl (fun h => ?_) (fun h => ?_)
  ·simp only [decide_eq_true_eq, Int.ofNat_lt] at h
   have hd := List.drop_eq_getElem_cons h
   rw [hd, dI] at hq
   have q0 := @h; refine eZ (hf l[k] (List.getElem_mem h)) ?_
   refine cnd rfl (fun h2 => ?_) (fun h2 => ?_)
   ·refine aD ?_
    exact aA ⟨⟨_, rfl, by simp only [go_sem, hq, h2]⟩, trivial⟩
   ·refine aD ?_
    refine aC (k + 1) ?_ ?_ ?_
    ·simp only [go_sem]; simp
    ·rw [hq, h2]; exact ⟨h, by simp⟩
    ·omega
  ·simp only [decide_eq_false_iff_not] at h
   have e : k = l.length := by omega
   subst e
   simp only [List.drop_length, dI] at hq
   refine aD ?_
   exact aA ⟨⟨_, rfl, by simp only [go_sem, hq]⟩, trivial⟩
theorem yE (f : Nat) (c : List D) (p : Int → Bool) (l : List Int) (hf : ∀ s ∈ l, FnC Tryz.prog f [oi s, .o (.q c)] (ob (p s))) (hl : l.length ≤ 67108864) :
    FnI Tryz.prog 242 3 1 (l.map eQ) [.o (.f f [c])] false ((l.filter fun x => !p x).map eQ) := by
 refine ⟨Tryz.call242, fun V w y S vs hm hrow hnd hlt hargs => ?_⟩
 have hl1 : vs.length = 1 := by have := hargs.1; simpa using this
 match vs, hl1 with
 | [v], _ =>
  have hv := hargs.2 0 _ v rfl rfl
  obtain ⟨lb, rfl, hlb, hcaps⟩ := hv
  have hcl : cSV [] V (.o (.f f [c])) (.func (.func f) #[] lb.toArray) := ⟨lb, rfl, hlb, hcaps⟩
  have hone : ∃ pv, lb = [pv] := by
   match lb, hlb with
   | [pv], _ => exact ⟨pv, rfl⟩
  obtain ⟨pv, rfl⟩ := hone
  have hq : cSV [] V (.o (.q c)) pv := hcaps 0 c pv rfl rfl
  have hI := a6g f c p l hf hl
  rcases scal_down (e := (Value.int .i64)) hrow with ⟨⟨ao, rfl⟩, rfl, rfl⟩ | ⟨b, cap, cc, rfl, h1, h2, h3, h4, h5, h6, rfl⟩
  ·have hIF := hI.calls V w [.slice ao 0 0, .func (.func f) #[] #[pv]] hm ⟨rfl, fun i s y e1 e2 => by
    match i with
    | 0 => simp at e1 e2; subst e1; subst e2; exact a9C ao
    | 1 => simp at e1 e2; subst e1; subst e2; exact hcl
    | i + 2 => simp at e1⟩
   have hD := a2Q ao 0 0 w f #[pv] (hIF.mono (by
    rintro e w' ⟨y, rfl, hd⟩
    obtain ⟨V', S', _, _, _, ⟨l', hsh, hr⟩, _, _⟩ := hd.out
    exact ⟨by simpa [dI] using zK hd, hd.below⟩))
   refine hD.mono ?_
   rintro e w' ⟨rfl, hb⟩
   exact ⟨_, rfl, (fun h => (by cases h)), ⟨lH _ hb, [], ⟨by simp, [], [], LayL.nil V, .inl ⟨⟨ao, rfl⟩, rfl, rfl⟩⟩, hnd, (fun b hb => .inl hb), (fun _ => rfl)⟩⟩
  ·have hR := RowAt.of_row (e := (Value.int .i64)) h3 h4 h1 h5
   have hlt' : b < w.heap.size := (Array.getElem?_eq_some_iff.1 h3).1
   have hIF := hI.calls (xY V b (l.map (Value.int .i64))) w [.slice (some ⟨b, 0, none⟩) l.length cap, .func (.func f) #[] #[pv]] (a6P hm hR) ⟨rfl, fun i s y e1 e2 => by
    match i with
    | 0 => simp at e1 e2; subst e1; subst e2; exact ⟨_, b3M (e := (Value.int .i64)) (fun _ => rfl) h1 h2⟩
    | 1 => simp at e1 e2; subst e1; subst e2; exact hcl.mono (GLe.refl _) (a4M h6 _)
    | i + 2 => simp at e1⟩
   rcases Nat.eq_zero_or_pos l.length with h0 | h0
   ·have hnil : l = [] := List.eq_nil_of_length_eq_zero h0
    subst hnil
    have hD := a2Q (some ⟨b, 0, none⟩) 0 cap w f #[pv] (hIF.mono (by
     rintro e w' ⟨y, rfl, hd⟩
     exact ⟨by simpa [dI] using zK hd, hd.below⟩))
    refine hD.mono ?_
    rintro e w' ⟨rfl, hb⟩
    have hG := (hR.behind hb).row (l := ([] : List Int)) (G := []) (V := V) (e := (Value.int .i64)) (fun _ => rfl) h2 h6
    exact ⟨_, rfl, (fun h => (by cases h)), ⟨lH _ hb, [b], hG, hnd, (fun b hb => .inl hb), (fun _ => rfl)⟩⟩
   ·have hg := hf l[0] (List.getElem_mem h0)
    have hW := a9K b cap l w p f #[pv] hR h1 (by simp only [maxLen] at h2; omega) (dI p l 0) (by
        rcases idxP_spec p l 0 with h | ⟨k0, e1, e2⟩
        ·exact .inl h
        ·exact .inr ⟨k0, by rw [e1]; simp, e2⟩) hg.enters (hIF.mono (by
        rintro e w' ⟨y, rfl, hd⟩
        exact ⟨zK hd, hd.below⟩)) (fun W F x hx hRW => by
        refine ((hf x hx).calls V W [.int .i64 x, pv] (hRW.mod hm h6) ⟨rfl, fun i s y e1 e2 => ?_⟩).mono ?_
        ·match i with
         | 0 => simp at e1 e2; subst e1; subst e2; exact ⟨_, .v _ rfl⟩
         | 1 => simp at e1 e2; subst e1; subst e2; exact hq
         | i + 2 => simp at e1
        ·rintro e w' ⟨y, rfl, hd⟩
         exact ⟨b2y hd, hd.below⟩)
    refine hW.mono ?_
    rintro e w' ⟨rfl, G, hG⟩
    exact ⟨_, rfl, (fun h => (by cases h)), ⟨hG.grown, [b], hG.row (fun _ => rfl) h2 h6, hnd, (fun b hb => .inl hb), (fun _ => rfl)⟩⟩
end Go.Proofs.YteaaopodnbjpoaaGreat
end
