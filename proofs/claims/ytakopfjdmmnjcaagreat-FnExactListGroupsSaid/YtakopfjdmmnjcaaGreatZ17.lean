/- Joined texts. -/
import Derived.Test.YtakopfjdmmnjcaaGreatZ16
import Derived.Test.YtakopfjdmmnjcaaGreatZ11
import Derived.Test.YtakopfjdmmnjcaaGreatZ15
set_option linter.all false
section
set_option maxRecDepth 100000
set_option maxHeartbeats 4000000
namespace Go.Proofs.YtakopfjdmmnjcaaGreat
open Go Go.Sx Go.RowKit Go.Proofs
theorem a4Q (s : TStore) (id : Int) (h : wStore s ≤ 4300000) : FnC Tryz.prog 85 [cB s, oi id] (.t [(true, (jC (iT id s.fFiles)).cells), (false, [.d (bv (decide (0 ≤ ixF id s.fFiles)))])]) := (a5M s id h).pu (by simp only [go_sem, and_self])
def kI (v : TValue) : List bL → Nat
 | [] => 0
 | p :: l => if cmpV p.1.fValue v < 0 then kI v l + 1 else 0
theorem b3v (v : TValue) : ∀ {l : List bL} {n : Nat} (h : n < l.length), kI v l = n + kI v (l.drop n) → kI v l = if cmpV l[n].1.fValue v < 0 then n + 1 + kI v (l.drop (n + 1)) else n := fun {l n} h e => by
 rw [e, List.drop_eq_getElem_cons h, kI]
 split <;> omega
theorem a6D (v : TValue) (id : Int) (z' : Value) : ∀ {its : List bL} (h : kI v its < its.length), nJ v its[kI v its] = true →
    gQ (its.map (·.1)) (v, id) = (its.set (kI v its) (⟨its[kI v its].1.fValue, its[kI v its].1.fIDs ++ [id]⟩, z')).map (·.1)
 | [], h, _ => by simp at h
 | p :: l, h, h1 => by
  by_cases hc : cmpV p.1.fValue v < 0
  ·have e : kI v (p :: l) = kI v l + 1 := by simp [kI, hc]
   simp only [e, List.getElem_cons_succ, List.set_cons_succ, List.map_cons, gQ, hc, if_true] at h1 ⊢
   rw [a6D v id z' (by rw [e] at h; simpa using h) h1]
  ·have e : kI v (p :: l) = 0 := by simp [kI, hc]
   simp only [e, List.getElem_cons_zero] at h1 ⊢
   have hv : p.1.fValue = v := (qB _ _).1 h1
   simp only [hv] at hc
   simp [gQ, hc, hv]
theorem a2r (v : TValue) (id : Int) (z : Value) : ∀ {its : List bL}, (∀ h : kI v its < its.length, nJ v its[kI v its] = false) →
    gQ (its.map (·.1)) (v, id) = (its.take (kI v its) ++ [((⟨v, [id]⟩ : TGroup), z)] ++ its.drop (kI v its)).map (·.1)
 | [], _ => rfl
 | p :: l, h => by
  by_cases hc : cmpV p.1.fValue v < 0
  ·have e : kI v (p :: l) = kI v l + 1 := by simp [kI, hc]
   have ih := a2r v id z (its := l) fun hl => by
    have := h (by rw [e]; simpa using hl)
    simpa only [e, List.getElem_cons_succ] using this
   simp only [e, List.map_cons, gQ, hc, if_true, List.take_succ_cons, List.drop_succ_cons, List.cons_append]
   rw [ih]
  ·have e : kI v (p :: l) = 0 := by simp [kI, hc]
   have h1 := h (by rw [e]; simp)
   simp only [e, List.getElem_cons_zero] at h1
   have hv : ¬ p.1.fValue = v := fun k => by rw [nJ, (qB _ _).2 k] at h1; cases h1
   simp [gQ, hc, hv, e]
theorem a6E (x : TValue × Int) : ∀ l : List TGroup, wsum (fun g => g.fIDs.length) (gQ l x) = wsum (fun g => g.fIDs.length) l + 1 ∧ (gQ l x).length ≤ l.length + 1
 | [] => by simp [gQ, wsum]
 | g :: l => by
  have ih := a6E x l
  unfold gQ
  split
  ·simp [wsum]; omega
  ·split
   ·simp [wsum]; omega
   ·simp [wsum]; omega
theorem a9g (xs : List (TValue × Int)) : ∀ l : List TGroup, wsum (fun g => g.fIDs.length) (xs.foldl gQ l) = wsum (fun g => g.fIDs.length) l + xs.length ∧ (xs.foldl gQ l).length ≤ l.length + xs.length := by
 induction xs with
 | nil => intro l; simp
 | cons x xs ih =>
  intro l
  have h1 := a6E x l
  have h2 := ih (gQ l x)
  simp only [List.foldl_cons, List.length_cons]
  omega
def a0N (n : Nat) (v : TValue) (id : Int) (z : Value) (l : List bL) : List bL := l.take n ++ [((⟨v, [id]⟩ : TGroup), z)] ++ l.drop n
theorem a3L (n : Nat) (v : TValue) (id : Int) (z : Value) (l : List bL) : (l.map tY ++ [(z, [[Value.int .i64 id]])]).Perm ((a0N n v id z l).map tY) := by
 have e : l.map tY ++ [(z, [[Value.int .i64 id]])] = (l ++ [((⟨v, [id]⟩ : TGroup), z)]).map tY := by simp [tY]
 rw [e]
 refine List.Perm.map _ ?_
 unfold a0N
 conv => lhs; rw [← List.take_append_drop n l]
 rw [List.append_assoc, List.append_assoc]
 exact List.Perm.append_left _ List.perm_append_comm
theorem mJ (n : Nat) (v : TValue) (id : Int) (z : Value) (l : List bL) : (a0N n v id z l).map nI = (l.take n).map nI ++ [[iv v.fKind, iv v.fInt, sv v.fStr, .v z]] ++ (l.drop n).map nI := by simp [a0N, nI]
namespace Opq
theorem specGroup_ok (s : TStore) (ids : List Int) (name : ByteArray) (h : wStore s ≤ 1048576) (hi : ids.length ≤ 1048576) :
    FnC Tryz.prog 39 [cB s, .o (.d (.sl (ids.map fA))), os name] (.o (.w 75 4 (((eB s ids name).foldl gQ []).map eG))) := by
 refine ent Tryz.func39 rfl Tryz.call39 rfl (fun C => ?_); simp only [go_sem, st0, Tryz.ntmps39]
 refine aD ?_
 refine WP.sees (Sees.pool0 3 1) ?_
 simp only [go_sem]
 refine aM (α := Nat × List bL) (fun x => [(7, .o (.s 1)), (8, oi x.1), (14, .o .u)]) (fun x => [(1, .row 75 4 (x.2.map nI) true), (2, .pool 3 1 (x.2.map tY))]) (fun x => x.1 ≤ ids.length ∧ x.2.map (·.1) = ((eB s ids name).take x.1).foldl gQ []) (fun x => ids.length - x.1) (0, []) (fun _ => ?_) ?_ ?_ (fun x hx => ?_)
 ·simp only [go_sem]
 ·simp only [go_sem]; simp
 ·simp
 ·obtain ⟨k, its⟩ := x
  obtain ⟨hk, hq⟩ := hx
  simp only at hk hq
  simp only [go_sem]
  refine aD ?_
  refine cnd rfl (fun h1 => ?_) (fun h1 => ?_)
  ·simp only [decide_eq_true_eq, Int.ofNat_lt] at h1
   have hfw : wFile (iT ids[k] s.fFiles) ≤ 4300000 := by have := a4t ids[k] s.fFiles; unfold wStore at h; omega
   have hG := cK (iT ids[k] s.fFiles) name hfw
   have hvk : (eB s ids name).take (k + 1) = (eB s ids name).take k ++ [(getAttr name (iT ids[k] s.fFiles).fAttrs, ids[k])] := by
    rw [List.take_succ_eq_append_getElem (by simpa [eB] using h1)]
    simp [eB]
   generalize getAttr name (iT ids[k] s.fFiles).fAttrs = v at hG hvk
   have hsum := a9g ((eB s ids name).take k) []
   rw [← hq] at hsum
   have hvl : ((eB s ids name).take k).length = k := by simp [eB]; omega
   rw [hvl] at hsum
   simp only [wsum, List.length_nil, List.length_map, Nat.zero_add] at hsum
   have hil : its.length ≤ k := hsum.2
   have hF := a4Q s ids[k] (by omega)
   have qH := @h1; repeat' (with_reducible first | refine nY ?_ | (refine mX ?_; try simp only [go_sem, qH]) | refine kD ?_ | (apply rE [5,9,10] [] [0,1,2,3,4] [0,1,2,3,4] ((.c 5 [6,7,8] [6,7,8] (.c 9 [] [6,7,8] (.c 10 [11] [8,11] .n .n) .n) (.c 9 [] [0,1,2,3,4] (.c 5 [6,7,8] [6,7,8] (.c 10 [11] [8,11] .n .n) .n) .n))) (by simp only [go_sem]; rfl) (by simp only [go_sem]; rfl) (by simp only [go_sem]; rfl) (by decide +kernel); (focus simp only [go_sem]; done)) | exact iV | refine fU (uX ?_) ?_ | refine fV (aX ?_) ?_ | refine fZ (aX ?_) ?_ | exact jE | exact oH | exact uB | refine rD ?_ | refine cP hF ?_ | refine cP hG ?_ | refine aO ?_ | fail)
   have hC := fun p : bL => a2u p.1.fValue v
   refine aM (α := Nat) (fun n => [(12, oi n)]) (fun _ => []) (fun n => n ≤ its.length ∧ kI v its = n + kI v (its.drop n)) (fun n => its.length - n) 0 (fun _ => ?_) ?_ ?_ (fun n hn => ?_)
   ·simp only [go_sem]
   ·simp only [go_sem]; simp
   ·simp
   ·obtain ⟨hn, hf⟩ := hn
    simp only [go_sem]
    by_cases h5 : n < its.length
    ·have hfx := b3v v h5 hf
     have h5' : ((n : Int) < (its.length : Int)) = True := by simp [h5]
     have qH := aI @h5 (aI @h5' @decide_true); repeat' (with_reducible first | refine nY ?_ | (refine mX ?_; try simp only [go_sem, qH]) | refine kD ?_ | refine rT [13] [] ?_ | refine bU (aX ?_) (uX ?_) | refine dI (aX ?_) ?_ | (refine uA ?_; simp only [go_sem, qH]; (repeat' first | omega | refine And.intro ?_ ?_ | refine cP (hC its[n]) ?_ | (refine mX ?_; simp only [go_sem, qH] <;> fail)); done) | refine rD ?_ | refine cP (hC its[n]) ?_ | refine aO ?_ | fail)
     refine cnd rfl (fun h6 => ?_) (fun h6 => ?_)
     ·simp only [decide_eq_true_eq] at h6
      rw [if_pos h6] at hfx
      refine aD ?_
      refine aF (n + 1) ?_ ?_ ?_
      ·simp only [go_sem]; simp
      ·exact ⟨by omega, hfx⟩
      ·omega
     ·simp only [decide_eq_false_iff_not] at h6
      rw [if_neg h6] at hfx
      have qH := aI @h5 (aI @h5' @decide_true); repeat' (with_reducible first | refine nY ?_ | (refine mX ?_; try simp only [go_sem, qH]) | refine kD ?_ | refine rT [12] [] ?_ | refine bU (aX ?_) (uX ?_) | refine dI (aX ?_) ?_ | exact uB | refine rD ?_ | refine aO ?_ | fail)
      refine cnd (b := nJ v its[n]) rfl (fun h7 => ?_) (fun h7 => ?_)
      ·have qH := aI @h5 (aI @h5' (aI @h1 @decide_true)); repeat' (with_reducible first | refine nY ?_ | (refine mX ?_; try simp only [go_sem, qH]) | refine kD ?_ | (apply rF [11,12,15] [] [0,1,2,3,4,5,6,7,8,9,10] [0,1,2,3,4,5,6,7,8,9,10] ((.c 11 [] [0,1,2,3,4,5,6] (.c 12 [13,14] [0,1,13,14] (.c 15 [] [] .n .n) .n) .n)) (by simp only [go_sem]; rfl) (by simp only [go_sem]; rfl) (by simp only [go_sem]; rfl) (by decide +kernel); (focus simp only [go_sem]; done)) | exact iV | refine fU (uX ?_) ?_ | refine fV (aX ?_) ?_ | refine fZ (aX ?_) ?_ | exact jE | exact oH | exact uB | refine rD ?_ | refine aO ?_ | fail)
       refine ⟨by simp, b1e fun z2 => ?_⟩
       have qH := aI @h5 (aI @h5' (aI @h1 @decide_true)); repeat' (with_reducible first | refine nY ?_ | (refine mX ?_; try simp only [go_sem, qH]) | refine kD ?_ | exact iV | refine fU (uX ?_) ?_ | refine fV (aX ?_) ?_ | refine fZ (aX ?_) ?_ | exact uB | refine rD ?_ | refine aO ?_ | fail)
       refine b4l 2 n 5 (its[n].1.fIDs.map fun i => [.int .i64 i]) [[.int .i64 ids[k]]] rfl rfl ?_ (List.mem_singleton.2 rfl) (by simp) ?_ (fun z' => ?_)
       ·rw [List.getElem?_map, List.getElem?_eq_getElem h5]; rfl
       ·have hi2 := bB (fun g : TGroup => g.fIDs.length) (its.map (·.1)) (k := n) (by simpa using h5)
        simp only [List.getElem_map] at hi2
        simp only [go_sem, List.length_map, List.length_cons, List.length_nil]
        omega
       ·simp only [go_sem]
        have qH := aI @h5 (aI @h5' (aI @h1 @decide_true)); repeat' (with_reducible first | refine nY ?_ | (refine mX ?_; try simp only [go_sem, qH]) | refine kD ?_ | exact iV | refine fU (uX ?_) ?_ | refine fV (aX ?_) ?_ | refine fZ (aX ?_) ?_ | exact uB | refine rD ?_ | refine aO ?_ | fail)
        refine aF (k + 1, its.set n (⟨its[n].1.fValue, its[n].1.fIDs ++ [ids[k]]⟩, z')) ?_ ?_ ?_
        ·simp only [go_sem]; simp [List.map_set, nI, tY]
        ·refine ⟨h1, ?_⟩
         simp only
         rw [hvk, List.foldl_append, ← hq]
         simp only [List.foldl_cons, List.foldl_nil]
         subst hfx
         exact (a6D v ids[k] z' h5 h7).symm
        ·simp only; omega
      ·have hins : ∀ z2, (a0N n v ids[k] z2 its).map (·.1) = ((eB s ids name).take (k + 1)).foldl gQ [] := fun z2 => by
        rw [hvk, List.foldl_append, ← hq]
        simp only [List.foldl_cons, List.foldl_nil]
        subst hfx
        exact (a2r v ids[k] z2 fun hl => h7).symm
       refine WP.sees (Sees.frz 1 rfl) ?_
       simp only [go_sem]
       have qH := aI @h5 (aI @h5' (aI @h1 (aI @mH (aI @mI (aI @sD (aI @sF @a0J)))))); repeat' (with_reducible first | refine nY ?_ | (refine mX ?_; try simp only [go_sem, qH]) | refine kD ?_ | (apply rF [0,4,10,12,13] [] [1,2,3,5,6,7,8,9] [1,2,3,5,6,7,8,9] ((.c 0 [] [1,2,3,5,6,7,8,9] (.c 4 [] [5,6,7,8,9] (.c 10 [11] [5,11] (.c 12 [] [] (.c 13 [14] [14] .n .n) .n) .n) (.c 10 [11] [1,2,3,5,11] (.c 4 [] [5,11] (.c 12 [] [] (.c 13 [14] [14] .n .n) .n) (.c 12 [] [1,2,3] (.c 4 [] [] (.c 13 [14] [14] .n .n) .n) .n)) .n)) (.c 10 [11] [1,2,3,5,11] (.c 0 [] [1,2,3,5,11] (.c 4 [] [5,11] (.c 12 [] [] (.c 13 [14] [14] .n .n) .n) (.c 12 [] [1,2,3] (.c 4 [] [] (.c 13 [14] [14] .n .n) .n) .n)) (.c 12 [] [1,2,3] (.c 0 [] [1,2,3] (.c 4 [] [] (.c 13 [14] [14] .n .n) .n) .n) .n)) .n))) (by simp only [go_sem]; rfl) (by simp only [go_sem]; rfl) (by simp only [go_sem]; rfl) (by decide +kernel); (focus simp only [go_sem]; done)) | exact iV | refine fU (uX ?_) ?_ | refine fV (aX ?_) ?_ | refine fZ (aX ?_) ?_ | exact jE | exact oH | exact uB | refine rD ?_ | refine aO ?_ | fail)
       all_goals
        refine ⟨by simp, b1e fun z2 => ?_⟩
        have qH := aI @h5 (aI @h5' (aI @h1 (aI @mH (aI @mI (aI @sD (aI @sF @a0J)))))); repeat' (with_reducible first | refine nX ?_ | (refine mX ?_; try simp only [go_sem, qH]) | refine kD ?_ | exact iV | refine fU (uX ?_) ?_ | refine fV (aX ?_) ?_ | refine fZ (aX ?_) ?_ | exact uB | refine aO ?_ | fail)
       all_goals
        first | refine WP.sees (Sees.poolM 2 5 rfl rfl (by decide)) ?_ | refine WP.sees (Sees.poolM 2 6 rfl rfl (by decide)) ?_ | refine WP.sees (Sees.poolM 2 7 rfl rfl (by decide)) ?_
        refine WP.sees (Sees.poolP 2 rfl (a3L n v ids[k] z2 its)) ?_
        simp only [go_sem]
        have q0 := @h5; have q1 := @h5'; have q2 := @h1; have q3 := @mH; have q4 := @mI; have q5 := @sD; have q6 := @sF; have q7 := @a0J; refine yV ?_
       all_goals
        first
        | (refine qG [(1, 5)] (k + 1, a0N n v ids[k] z2 its) (by simp only [go_sem]; rfl) ?_ ⟨h1, hins z2⟩ (by simp only; omega)
           simp only [go_sem]
           simp [mJ]
           done)
        | (refine qG [(1, 6)] (k + 1, a0N n v ids[k] z2 its) (by simp only [go_sem]; rfl) ?_ ⟨h1, hins z2⟩ (by simp only; omega)
           simp only [go_sem]
           simp [mJ]
           done)
        | (refine qG [(1, 7)] (k + 1, a0N n v ids[k] z2 its) (by simp only [go_sem]; rfl) ?_ ⟨h1, hins z2⟩ (by simp only; omega)
           simp only [go_sem]
           simp [mJ]
           done)
    ·have e : n = its.length := by omega
     have hfx : kI v its = n := by rw [hf, e, List.drop_length]; rfl
     have h5' : ((n : Int) < (its.length : Int)) = False := by simp [h5]
     have hins : ∀ z2, (a0N n v ids[k] z2 its).map (·.1) = ((eB s ids name).take (k + 1)).foldl gQ [] := fun z2 => by
      rw [hvk, List.foldl_append, ← hq]
      simp only [List.foldl_cons, List.foldl_nil]
      subst hfx
      exact (a2r v ids[k] z2 fun hl => by omega).symm
     refine WP.sees (Sees.frz 1 rfl) ?_
     simp only [go_sem]
     have qH := aI @h5 (aI @h5' (aI @h1 (aI @decide_false (aI @mH (aI @mI (aI @sD (aI @sF @a0J))))))); repeat' (with_reducible first | refine nY ?_ | (refine mX ?_; try simp only [go_sem, qH]) | refine kD ?_ | (apply rF [0,4,10,12,13] [] [1,2,3,5,6,7,8,9] [1,2,3,5,6,7,8,9] ((.c 0 [] [1,2,3,5,6,7,8,9] (.c 4 [] [5,6,7,8,9] (.c 10 [11] [5,11] (.c 12 [] [] (.c 13 [14] [14] .n .n) .n) .n) (.c 10 [11] [1,2,3,5,11] (.c 4 [] [5,11] (.c 12 [] [] (.c 13 [14] [14] .n .n) .n) (.c 12 [] [1,2,3] (.c 4 [] [] (.c 13 [14] [14] .n .n) .n) .n)) .n)) (.c 10 [11] [1,2,3,5,11] (.c 0 [] [1,2,3,5,11] (.c 4 [] [5,11] (.c 12 [] [] (.c 13 [14] [14] .n .n) .n) (.c 12 [] [1,2,3] (.c 4 [] [] (.c 13 [14] [14] .n .n) .n) .n)) (.c 12 [] [1,2,3] (.c 0 [] [1,2,3] (.c 4 [] [] (.c 13 [14] [14] .n .n) .n) .n) .n)) .n))) (by simp only [go_sem]; rfl) (by simp only [go_sem]; rfl) (by simp only [go_sem]; rfl) (by decide +kernel); (focus simp only [go_sem]; done)) | exact iV | refine fU (uX ?_) ?_ | refine fV (aX ?_) ?_ | refine fZ (aX ?_) ?_ | exact jE | exact oH | exact uB | refine rD ?_ | (refine rT [13] [] ?_) | (refine bU (aX ?_) (uX ?_)) | (refine dI (aX ?_) ?_) | refine aO ?_ | fail)
     all_goals
      refine ⟨by simp, b1e fun z2 => ?_⟩
      have qH := aI @h5 (aI @h5' (aI @h1 (aI @mH (aI @mI (aI @sD (aI @sF @a0J)))))); repeat' (with_reducible first | refine nX ?_ | (refine mX ?_; try simp only [go_sem, qH]) | refine kD ?_ | exact iV | refine fU (uX ?_) ?_ | refine fV (aX ?_) ?_ | refine fZ (aX ?_) ?_ | exact uB | refine aO ?_ | fail)
     all_goals
      first | refine WP.sees (Sees.poolM 2 5 rfl rfl (by decide)) ?_ | refine WP.sees (Sees.poolM 2 6 rfl rfl (by decide)) ?_ | refine WP.sees (Sees.poolM 2 7 rfl rfl (by decide)) ?_
      refine WP.sees (Sees.poolP 2 rfl (a3L n v ids[k] z2 its)) ?_
      simp only [go_sem]
      have q0 := @h5; have q1 := @h5'; have q2 := @h1; have q3 := @mH; have q4 := @mI; have q5 := @sD; have q6 := @sF; have q7 := @a0J; refine yV ?_
     all_goals
      first
      | (refine qG [(1, 5)] (k + 1, a0N n v ids[k] z2 its) (by simp only [go_sem]; rfl) ?_ ⟨h1, hins z2⟩ (by simp only; omega)
         simp only [go_sem]
         simp [mJ]
         done)
      | (refine qG [(1, 6)] (k + 1, a0N n v ids[k] z2 its) (by simp only [go_sem]; rfl) ?_ ⟨h1, hins z2⟩ (by simp only; omega)
         simp only [go_sem]
         simp [mJ]
         done)
      | (refine qG [(1, 7)] (k + 1, a0N n v ids[k] z2 its) (by simp only [go_sem]; rfl) ?_ ⟨h1, hins z2⟩ (by simp only; omega)
         simp only [go_sem]
         simp [mJ]
         done)
  ·simp only [decide_eq_false_iff_not] at h1
   have e : k = ids.length := by omega
   subst e
   have hvl : (eB s ids name).length = ids.length := by simp [eB]
   rw [← hvl, List.take_length] at hq
   rw [← hq]
   refine aD ?_
   refine lV (Sees.unpool 1 2 (its.map itO) (by rw [List.map_map]; rfl) rfl (by rw [List.map_map]; exact List.Perm.refl _)) ?_
   simp only [go_sem]
   have hclr : (its.map itO).map oK = (its.map (·.1)).map eG := by
    rw [List.map_map, List.map_map]
    exact List.map_congr_left fun p _ => a9h p
   exact aA ⟨⟨_, rfl, by simp only [go_sem, hclr]⟩, trivial⟩
end Opq
end Go.Proofs.YtakopfjdmmnjcaaGreat
end
section
set_option maxRecDepth 100000
set_option maxHeartbeats 4000000
namespace Go.Proofs.YtakopfjdmmnjcaaGreat
open Go Go.Sx Go.RowKit Go.Proofs
theorem a4V (s : TStore) (id : Int) (h : wStore s ≤ 4300000) : FnC Tryz.prog 72 [cB s, oi id] (.t [(true, (jC (iT id s.fFiles)).cells), (false, [.d (bv (decide (0 ≤ ixF id s.fFiles)))])]) := (a5L s id h).pu (by simp only [go_sem, and_self])
def nwG (v : TValue) : bL := (⟨v, []⟩, .slice none 0 0)
namespace Opq
theorem b2l (v : TValue) (p : bL) : FnC Tryz.prog 75 [gO p, .o (.q [iv v.fKind, iv v.fInt, sv v.fStr])] (ob (nJ v p)) := by
 refine ent Tryz.func75 rfl Tryz.call75 rfl (fun C => ?_); simp only [go_sem, st0, Tryz.ntmps75]
 refine aD ?_
 exact aA ⟨⟨_, rfl, by simp only [go_sem, nJ, vH]⟩, trivial⟩
theorem a2L (f : Nat) (c : List D) (p : bL → Bool) (l : List bL) (hf : ∀ s ∈ l, FnC Tryz.prog f [gO s, .o (.q c)] (ob (p s))) (hl : l.length ≤ 8388608) : FnC Tryz.prog 74 [.o (.d (.sl (l.map nI))), .o (.f f [c])] (oi (idxP p l 0)) := by
 refine ent Tryz.func74 rfl Tryz.call74 rfl (fun C => ?_); simp only [go_sem, st0, Tryz.ntmps74]
 refine aD ?_
 refine aM (α := Nat) (fun k => [(8, oi k)]) (fun _ => []) (fun k => k ≤ l.length ∧ idxP p l 0 = idxP p (l.drop k) k) (fun k => l.length - k) 0 (fun _ => ?_) ?_ ?_ (fun k hk => ?_)
 ·simp only [go_sem]
 ·simp only [go_sem]; simp
 ·simp
 ·obtain ⟨hk, hq⟩ := hk
  simp only [go_sem]
  refine aD ?_
  refine cnd rfl (fun h => ?_) (fun h => ?_)
  ·simp only [decide_eq_true_eq, Int.ofNat_lt] at h
   have hd := List.drop_eq_getElem_cons h
   rw [hd, idxP] at hq
   have q0 := @h; refine iU (hf l[k] (List.getElem_mem h)) ?_
   refine cnd rfl (fun h2 => ?_) (fun h2 => ?_)
   ·refine aD ?_
    exact aA ⟨⟨_, rfl, by simp only [go_sem, hq, h2]⟩, trivial⟩
   ·refine aD ?_
    refine aF (k + 1) ?_ ?_ ?_
    ·simp only [go_sem]; simp
    ·rw [hq, h2]; exact ⟨h, by simp⟩
    ·omega
  ·simp only [decide_eq_false_iff_not] at h
   have e : k = l.length := by omega
   subst e
   simp only [List.drop_length, idxP] at hq
   refine aD ?_
   exact aA ⟨⟨_, rfl, by simp only [go_sem, hq]⟩, trivial⟩
def SortsG (n : Nat) : Prop := ∀ its : List bL, iW (its.map (·.1)) → its.length ≤ n → ∃ its' : List bL, its'.Perm its ∧ (its'.map (·.1)).Pairwise ltG ∧
    FnI Tryz.prog 76 75 4 (its.map nI) [.o (.f 77 [])] true (its'.map nI)
theorem implGroup_ok (n : Nat) (hSort : SortsG n) (s : TStore) (ids : List Int) (name : ByteArray) (h : wStore s ≤ 1048576) (hi : ids.length ≤ 1048576) (hn : ids.length ≤ n) :
    FnC Tryz.prog 36 [cB s, .o (.d (.sl (ids.map fA))), os name] (.o (.w 75 4 (((eB s ids name).foldl gQ []).map eG))) := by
 refine ent Tryz.func36 rfl Tryz.call36 rfl (fun C => ?_); simp only [go_sem, st0, Tryz.ntmps36]
 refine aD ?_
 refine WP.sees (Sees.pool0 3 1) ?_
 simp only [go_sem]
 refine aM (α := Nat × List bL) (fun x => [(7, .o (.s 1)), (17, oi x.1), (14, .o .u)]) (fun x => [(1, .row 75 4 (x.2.map nI) true), (2, .pool 3 1 (x.2.map tY))]) (fun x => x.1 ≤ ids.length ∧ x.2.map (·.1) = ((eB s ids name).take x.1).foldl kU []) (fun x => ids.length - x.1) (0, []) (fun _ => ?_) ?_ ?_ (fun x hx => ?_)
 ·simp only [go_sem]
 ·simp only [go_sem]; simp
 ·simp
 ·obtain ⟨k, its⟩ := x
  obtain ⟨hk, hq⟩ := hx
  simp only at hk hq
  simp only [go_sem]
  refine aD ?_
  refine cnd rfl (fun h1 => ?_) (fun h1 => ?_)
  ·simp only [decide_eq_true_eq, Int.ofNat_lt] at h1
   have hfw : wFile (iT ids[k] s.fFiles) ≤ 4300000 := by have := a4t ids[k] s.fFiles; unfold wStore at h; omega
   have hG := iG (iT ids[k] s.fFiles) name hfw
   have hvk : (eB s ids name).take (k + 1) = (eB s ids name).take k ++ [(getAttr name (iT ids[k] s.fFiles).fAttrs, ids[k])] := by
    rw [List.take_succ_eq_append_getElem (by simpa [eB] using h1)]
    simp [eB]
   generalize getAttr name (iT ids[k] s.fFiles).fAttrs = v at hG hvk
   have hsum := a6I ((eB s ids name).take k) []
   rw [← hq] at hsum
   have hvl : ((eB s ids name).take k).length = k := by simp [eB]; omega
   rw [hvl] at hsum
   simp only [wsum, List.length_nil, List.length_map, Nat.zero_add] at hsum
   have hil : its.length ≤ k := hsum.2
   have hI := a2L _ _ (nJ v) its (fun p _ => b2l v p) (by omega)
   have hsp := idxP_spec (nJ v) its 0
   generalize idxP (nJ v) its 0 = q at hI hsp
   have qH := @h1; repeat' (with_reducible first | refine nY ?_ | (refine mX ?_; try simp only [go_sem, qH]) | refine kD ?_ | refine rD ?_ | refine cP (a4V s ids[k] (by omega)) ?_ | refine cP hG ?_ | refine vL hI ?_ | refine aO ?_ | fail)
   refine cnd rfl (fun h2 => ?_) (fun h2 => ?_)
   ·simp only [decide_eq_true_eq] at h2
    rcases hsp with ⟨rfl, hall⟩ | ⟨k0, rfl, _⟩
    case inr => omega
    refine WP.sees (Sees.poolN 2 rfl) ?_
    simp only [go_sem]
    have hrow : its.map nI ++ [[iv v.fKind, iv v.fInt, sv v.fStr, .v (.slice none 0 0)]] = (its ++ [nwG v]).map nI := by simp [nI, nwG]
    have hlen : its.length < (its ++ [nwG v]).length := by simp
    have q0 := @hrow; have q1 := @hlen; refine jB ?_
    refine ⟨by simp, b1e fun z2 => ?_⟩
    have q0 := @hrow; have q1 := @hlen; refine jB ?_
    refine b4l 2 its.length 6 [] [[.int .i64 ids[k]]] rfl rfl ?_ (List.mem_singleton.2 rfl) (by simp) ?_ (fun z' => ?_)
    ·simp [nwG]
    ·simp only [go_sem]
    ·simp only [go_sem]
     have q0 := @hrow; have q1 := @hlen; refine jB ?_
     refine aF (k + 1, (its ++ [nwG v]).set its.length (⟨v, [ids[k]]⟩, z')) ?_ ?_ ?_
     ·simp only [go_sem]; simp [List.map_set, nI, tY, nwG]
     ·refine ⟨h1, ?_⟩
      simp only
      rw [hvk, List.foldl_append, ← hq]
      simp only [List.foldl_cons, List.foldl_nil]
      rw [a6G v ids[k] hall]
      simp
     ·simp only; omega
   ·simp only [decide_eq_false_iff_not] at h2
    rcases hsp with ⟨rfl, hall⟩ | ⟨k0, rfl, hk0, ht, hlt⟩
    case inl => omega
    simp only [Nat.zero_add]
    have q0 := @hk0; refine iB ?_
    refine ⟨by simp, b1e fun z2 => ?_⟩
    have q0 := @hk0; refine iB ?_
    refine b4l 2 k0 5 (its[k0].1.fIDs.map fun i => [.int .i64 i]) [[.int .i64 ids[k]]] rfl rfl ?_ (List.mem_singleton.2 rfl) (by simp) ?_ (fun z' => ?_)
    ·rw [List.getElem?_map, List.getElem?_eq_getElem hk0]; rfl
    ·have hi2 := bB (fun g : TGroup => g.fIDs.length) (its.map (·.1)) (k := k0) (by simpa using hk0)
     simp only [List.getElem_map] at hi2
     simp only [go_sem, List.length_map, List.length_cons, List.length_nil]
     omega
    ·simp only [go_sem]
     have q0 := @hk0; refine iB ?_
     refine aF (k + 1, its.set k0 (⟨its[k0].1.fValue, its[k0].1.fIDs ++ [ids[k]]⟩, z')) ?_ ?_ ?_
     ·simp only [go_sem]; simp [List.map_set, nI, tY]
     ·refine ⟨h1, ?_⟩
      simp only
      rw [hvk, List.foldl_append, ← hq]
      simp only [List.foldl_cons, List.foldl_nil]
      exact (a6F v ids[k] z' hk0 ht hlt).symm
     ·simp only; omega
  ·simp only [decide_eq_false_iff_not] at h1
   have e : k = ids.length := by omega
   subst e
   have hvl : (eB s ids name).length = ids.length := by simp [eB]
   rw [← hvl, List.take_length] at hq
   have hsum := a6I (eB s ids name) []
   rw [← hq] at hsum
   simp only [wsum, List.length_nil, List.length_map, Nat.zero_add] at hsum
   obtain ⟨hap, hsrt, hmem⟩ := a3M (eB s ids name) [] [] List.Pairwise.nil List.Pairwise.nil fun g => Iff.rfl
   obtain ⟨its', hp, hs, hS⟩ := hSort its (by rw [hq]; exact hap) (by omega)
   have hfin : its'.map (·.1) = (eB s ids name).foldl gQ [] := a2J _ (fun g => by rw [← hq]; exact (hp.map (·.1)).mem_iff) hs
   rw [← hfin]
   have qH := trivial; repeat' (with_reducible first | refine nY ?_ | (refine mX ?_; try simp only [go_sem]) | refine kD ?_ | refine rD ?_ | refine vI hS ?_ | refine vJ hS ?_ | refine aO ?_ | fail)
   refine lV (Sees.unpool 1 2 (its'.map itO) (by rw [List.map_map]; rfl) rfl (by rw [List.map_map]; exact (hp.map tY).symm)) ?_
   simp only [go_sem]
   have hclr : (its'.map itO).map oK = (its'.map (·.1)).map eG := by
    rw [List.map_map, List.map_map]
    exact List.map_congr_left fun p _ => a9h p
   exact aA ⟨⟨_, rfl, by simp only [go_sem, hclr]⟩, trivial⟩
end Opq
end Go.Proofs.YtakopfjdmmnjcaaGreat
end
section
set_option maxRecDepth 100000
set_option maxHeartbeats 4000000
namespace Go.Proofs.YtakopfjdmmnjcaaGreat
open Go Go.Sx Go.RowKit Go.Proofs Go.Sort
theorem b2k (d : Array bL) (a : Nat) : Sort.insertionSort ltO d a a = d := by
 unfold Sort.insertionSort
 exact insOuter_stop _ _ _ _ _ (by omega)
theorem a2v : FnC Tryz.prog 116 [.o (.d (.sl [])), oi 0, .o (.f 77 [])] (.t []) := by
 have hI : FnC Tryz.prog 146 [.o (.d (.sl [])), oi 0, oi 0, .o (.f 77 [])] (.t []) := a0D
 refine ent Tryz.func116 rfl Tryz.call116 rfl (fun C => ?_); simp only [go_sem, st0, Tryz.ntmps116]
 refine aD ?_
 refine aM (α := Unit) (fun _ => [(7, oi 0), (8, oi 20)]) (fun _ => []) (fun _ => True) (fun _ => 0) () (fun _ => ?_) ?_ trivial (fun _ _ => ?_)
 ·simp only [go_sem]
 ·simp only [go_sem]; simp
 ·simp only [go_sem]
  refine iL hI ?_
  refine aM (α := Unit) (fun _ => [(6, oi 20)]) (fun _ => []) (fun _ => True) (fun _ => 0) () (fun _ => ?_) ?_ trivial (fun _ _ => ?_)
  ·simp only [go_sem]
  ·simp only [go_sem]; simp
  ·simp only [go_sem]
   refine aD ?_
   exact sK ⟨⟨_, rfl, by simp only [go_sem]⟩, by simp [dN]⟩
theorem a4S (d : Array bL) (hs : d.size ≤ 20) :
    FnI Tryz.prog 116 75 4 (fT d) [oi d.size, .o (.f 77 [])] true (fT (Sort.insertionSort ltO d 0 d.size)) := by
 have hz : (Sort.insertionSort ltO d 0 d.size).size = d.size := a2s 0 d.size _ _ d rfl
 refine b4M Tryz.func116 rfl Tryz.call116 rfl (kT d) (kT _) (by rw [jO, jO]; exact hz) (fun h0 => ?_) (fun hne C y => ?_)
 ·rw [zX h0]; exact a2v
 ·simp only [go_sem, Tryz.ntmps116]
  by_cases h20 : d.size = 20
  ·have hI0 : FnI Tryz.prog 146 75 4 (fT d) [oi 0, oi 20, .o (.f 77 [])] true (fT (Sort.insertionSort ltO d 0 d.size)) := by
    rw [h20]; exact wV d 0 20 (by omega) (by omega) (by omega)
   have hI : FnI Tryz.prog 146 75 4 (fT (Sort.insertionSort ltO d 0 d.size)) [oi 20, oi 20, .o (.f 77 [])] true (fT (Sort.insertionSort ltO d 0 d.size)) := by
    have := wV (Sort.insertionSort ltO d 0 d.size) 20 20 (by omega) (by omega) (by omega)
    rw [b2k] at this
    exact this
   have hz20 : (d.size : Int) = 20 := by omega
   generalize Sort.insertionSort ltO d 0 d.size = d1 at hI hI0
   rw [hz20]
   refine aD ?_
   refine aM (α := Bool) (fun x => [(7, oi (bif x then 20 else 0)), (8, oi (bif x then 40 else 20))]) (fun x => [(0, .row 75 4 (fT (bif x then d1 else d)) true)]) (fun _ => True) (fun x => bif x then 0 else 1) false (fun _ => ?_) ?_ trivial (fun x _ => ?_)
   ·simp only [go_sem]
   ·simp only [go_sem]; simp
   ·simp only [go_sem]
    cases x with
    | false =>
     simp only [cond_false]
     have qH := trivial; repeat' (with_reducible first | refine nY ?_ | (refine mX ?_; try simp only [go_sem]) | refine kD ?_ | refine rD ?_ | refine vI hI0 ?_ | refine vJ hI0 ?_ | refine aO ?_ | fail)
     refine aF true ?_ trivial (by simp)
     simp only [go_sem]; simp
    | true =>
     simp only [cond_true]
     have qH := trivial; repeat' (with_reducible first | refine nY ?_ | (refine mX ?_; try simp only [go_sem]) | refine kD ?_ | refine rD ?_ | refine vI hI ?_ | refine vJ hI ?_ | refine aO ?_ | fail)
     refine aM (α := Unit) (fun _ => [(6, oi 20)]) (fun _ => []) (fun _ => True) (fun _ => 0) () (fun _ => ?_) ?_ trivial (fun _ _ => ?_)
     ·simp only [go_sem]
     ·simp only [go_sem]; simp
     ·simp only [go_sem]
      refine aD ?_
      exact nT rfl rfl
  ·have hl : ¬ ((20 : Int) ≤ (d.size : Int)) := by omega
   have hl2 : ¬ ((20 : Int) < (d.size : Int)) := by omega
   have hI : FnI Tryz.prog 146 75 4 (fT d) [oi 0, oi d.size, .o (.f 77 [])] true (fT (Sort.insertionSort ltO d 0 d.size)) := wV d 0 d.size (by omega) (by omega) (by omega)
   generalize Sort.insertionSort ltO d 0 d.size = d1 at hI
   refine aD ?_
   refine aM (α := Unit) (fun _ => [(7, oi 0), (8, oi 20)]) (fun _ => []) (fun _ => True) (fun _ => 0) () (fun _ => ?_) ?_ trivial (fun _ _ => ?_)
   ·simp only [go_sem]
   ·simp only [go_sem]; simp
   ·simp only [go_sem]
    have qH := aI @hl @decide_false; repeat' (with_reducible first | refine nY ?_ | (refine mX ?_; try simp only [go_sem, qH]) | refine kD ?_ | refine rD ?_ | refine vI hI ?_ | refine vJ hI ?_ | refine aO ?_ | fail)
    refine aM (α := Unit) (fun _ => [(6, oi 20)]) (fun _ => []) (fun _ => True) (fun _ => 0) () (fun _ => ?_) ?_ trivial (fun _ _ => ?_)
    ·simp only [go_sem]
    ·simp only [go_sem]; simp
    ·simp only [go_sem]
     have q0 := @hl2; have q1 := @decide_false; refine jB ?_
     exact nT rfl rfl
theorem b3z : SWO ltO := by
 refine ⟨fun x => ?_, fun x y z h1 h2 => ?_, fun x y z h1 h2 => ?_⟩
 ·unfold ltO
  rw [decide_eq_false_iff_not, oD]; exact nK _
 ·unfold ltO at h1 h2 ⊢
  rw [decide_eq_true_eq, oD] at h1 h2 ⊢
  exact qC _ _ _ h1 h2
 ·unfold ltO at h1 h2 ⊢
  rw [decide_eq_false_iff_not, oD] at h1 h2 ⊢
  intro h3
  by_cases e : x.1.fValue = y.1.fValue
  ·rw [e] at h3; exact h2 h3
  ·exact h2 (qC _ _ _ (a1f h1 e) h3)
theorem a4T {d : Array bL} (h : SortedIn ltO 0 d.size d) (ha : iW (d.toList.map (·.1))) : (d.toList.map (·.1)).Pairwise ltG := by
 rw [List.pairwise_iff_getElem] at *
 unfold iW at ha
 rw [List.pairwise_iff_getElem] at ha
 intro i j hi hj hij
 have hi' : i < d.toList.length := by simpa using hi
 have hj' : j < d.toList.length := by simpa using hj
 have h1 := h i j (by omega) hij (by simpa using hj')
 have h2 := ha i j hi hj hij
 rw [← lH d i hi', ← lH d j hj'] at h1
 simp only [List.getElem_map] at h2 ⊢
 unfold ltO at h1
 rw [decide_eq_false_iff_not, oD] at h1
 exact a1f h1 (fun e => h2 e.symm)
theorem a8i {l m : List TGroup} (h : l.Perm m) (ha : iW l) : iW m := by
 unfold iW at *
 exact (h.pairwise_iff (fun {a b} hab => fun e => hab e.symm)).1 ha
theorem a4U {d d' : Array bL} (h : PermIn 0 d.size d d') : d'.toList.Perm d.toList := by
 have := h.2.2
 have h1 := h.1
 rw [show d'.extract 0 d.size = d' by rw [← h1]; simp, show d.extract 0 d.size = d by simp] at this
 exact this
theorem a2K (d d1 : Array bL) (hz : d1.size = d.size) (hS : FnI Tryz.prog 116 75 4 (fT d) [oi d.size, .o (.f 77 [])] true (fT d1))
    (hN : d.size = 0 → FnC Tryz.prog 116 [.o (.d (.sl [])), oi 0, .o (.f 77 [])] (.t [])) :
    FnI Tryz.prog 76 75 4 (fT d) [.o (.f 77 [])] true (fT d1) := by
 have hlen := jO d
 refine b4M Tryz.func76 rfl Tryz.call76 rfl (kT d) (kT _) (by rw [jO, jO]; exact hz) (fun h0 => ?_) (fun hne C y => ?_)
 ·have hN : FnC Tryz.prog 116 [.o (.d (.sl [])), oi ((0 : Nat) : Int), .o (.f 77 [])] (.t []) := hN (zX h0)
  refine ent Tryz.func76 rfl Tryz.call76 rfl (fun C => ?_); simp only [go_sem, st0, Tryz.ntmps76]
  refine iL hN ?_
  exact sK ⟨⟨_, rfl, by simp only [go_sem]⟩, by simp [dN]⟩
 ·simp only [go_sem, Tryz.ntmps76]
  have qH := @hlen; repeat' (with_reducible first | refine nY ?_ | (refine mX ?_; try simp only [go_sem, qH]) | refine kD ?_ | refine rD ?_ | refine vI hS ?_ | refine vJ hS ?_ | refine aO ?_ | fail)
  exact nT rfl rfl
theorem a6N (its : List bL) (hap : iW (its.map (·.1))) (hl : its.length ≤ 20) : ∃ its' : List bL, its'.Perm its ∧ (its'.map (·.1)).Pairwise ltG ∧
    FnI Tryz.prog 76 75 4 (its.map nI) [.o (.f 77 [])] true (its'.map nI) := by
 obtain ⟨h1, h2⟩ := insertionSort_holds b3z its.toArray 0 its.toArray.size (Nat.zero_le _) (Nat.le_refl _)
 have hp := a4U h1
 refine ⟨(Sort.insertionSort ltO its.toArray 0 its.toArray.size).toList, hp, ?_, ?_⟩
 ·refine a4T (by rw [h1.1]; exact h2) (a8i (hp.map (·.1)).symm (by simpa using hap))
 ·exact a2K its.toArray _ h1.1 (a4S its.toArray (by simpa using hl)) (fun _ => a2v)
theorem a6O : Opq.SortsG 20 := fun its hap hl => a6N its hap hl
end Go.Proofs.YtakopfjdmmnjcaaGreat
end
section
set_option maxRecDepth 100000
set_option maxHeartbeats 4000000
namespace Go.Proofs.YtakopfjdmmnjcaaGreat
open Go Go.Sx Go.RowKit Go.Proofs
theorem b2S (s : TStore) (d : List TDir) : ∀ x ∈ (evX s d [] (dirNs d)).1, x.fIDs.length ≤ 12 := by
 unfold evX
 split
 ·rename_i hb
  rw [Bool.and_eq_true] at hb
  obtain ⟨hv, hleast⟩ := yE hb.1
  have h12 := nW hb.2
  have hev := yL (fs := s.fFiles) (ns := dirNs d) (r := []) (fun i (hi : i < d.length) => kR hv i hi) hleast.clo (tQ d (resL d))
  have h0 : aW [] = 0 := by simp [aW, wsum]
  revert hev
  generalize (allE s.fFiles d (resL d) (dirNs d) (s.fFiles.length + aW []) [] (tQ d (resL d))).1 = X
  rw [h0]
  intro hev x hx
  obtain ⟨i, hi, rfl⟩ := List.mem_iff_getElem.1 hx
  have hlen := hev.len
  obtain ⟨e1, e2⟩ := hev.get i (by omega)
  have h2 := hev.bd i
  rw [e2]
  omega
 ·intro x hx; simp at hx
theorem a3n (n : ByteArray) : ∀ r : List TResult, (∀ x ∈ r, x.fIDs.length ≤ 12) → (bF n r).length ≤ 12
 | [], _ => by simp [bF]
 | x :: r, h => by
  unfold bF
  split
  ·exact h x List.mem_cons_self
  ·exact a3n n r fun y hy => h y (List.mem_cons_of_mem _ hy)
theorem a4p (s : TStore) (d : List TDir) (u : Int) (n : ByteArray) : (a4s s d u n).length ≤ 12 := by
 refine a3n n _ ?_
 unfold evU
 split
 ·exact b2S _ _
 ·intro x hx; simp at hx
noncomputable def grpL (s : TStore) (d : List TDir) (u : Int) (dir name : ByteArray) : List TGroup := (eB (vis s u) (a4s s d u dir) name).foldl gQ []
theorem a4q (s : TStore) (d : List TDir) (u : Int) (dir name : ByteArray) (hs : wStore s ≤ 1048576) (hd : dM d ≤ 1048576) : FnC Tryz.prog 12 [cB s, .o (.d (.sl (d.map bH))), oi u, os dir, os name] (.o (.w 75 4 ((grpL s d u dir name).map eG))) := by
 have hl := a4p s d u dir
 have hv := a5K s u
 refine ent Tryz.func12 rfl Tryz.call12 rfl (fun C => ?_); simp only [go_sem, st0, Tryz.ntmps12]
 have qH := trivial; repeat' (with_reducible first | refine nY ?_ | (refine mX ?_; try simp only [go_sem]) | refine kD ?_ | (apply rE [2,7,9] [] [0,1,3,4,5,6,8] [0,1,3,4,5,6,8] ((.c 2 [] [3,4,5,6,8] (.c 7 [] [8] (.c 9 [10] [10] .n .n) .n) .n)) (by simp only [go_sem]; rfl) (by simp only [go_sem]; rfl) (by simp only [go_sem]; rfl) (by decide +kernel); (focus simp only [go_sem]; done)) | exact iV | refine fU (uX ?_) ?_ | refine fV (aX ?_) ?_ | refine fZ (aX ?_) ?_ | exact jE | exact oH | (refine uA ?_; simp only [go_sem]; (repeat' first | omega | refine And.intro ?_ ?_); done) | refine rD ?_ | refine cP (a0g s u (by omega)) ?_ | refine cP (a7v s d u dir (by omega) (by omega)) ?_ | refine cP (Opq.implGroup_ok 20 a6O (vis s u) (a4s s d u dir) name (by omega) (by omega) (by omega)) ?_ | refine aO ?_ | fail)
 exact aA ⟨⟨_, rfl, by simp only [go_sem, grpL]⟩, trivial⟩
theorem a4r (s : TStore) (d : List TDir) (u : Int) (dir name : ByteArray) (hs : wStore s ≤ 1048576) (hd : dM d ≤ 1048576) : FnC Tryz.prog 13 [cB s, .o (.d (.sl (d.map bH))), oi u, os dir, os name] (.o (.w 75 4 ((grpL s d u dir name).map eG))) := by
 have hl := a4p s d u dir
 have hv := a5K s u
 refine ent Tryz.func13 rfl Tryz.call13 rfl (fun C => ?_); simp only [go_sem, st0, Tryz.ntmps13]
 have qH := trivial; repeat' (with_reducible first | refine nY ?_ | (refine mX ?_; try simp only [go_sem]) | refine kD ?_ | (apply rE [2,7,9] [] [0,1,3,4,5,6,8] [0,1,3,4,5,6,8] ((.c 2 [] [3,4,5,6,8] (.c 7 [] [8] (.c 9 [10] [10] .n .n) .n) .n)) (by simp only [go_sem]; rfl) (by simp only [go_sem]; rfl) (by simp only [go_sem]; rfl) (by decide +kernel); (focus simp only [go_sem]; done)) | exact iV | refine fU (uX ?_) ?_ | refine fV (aX ?_) ?_ | refine fZ (aX ?_) ?_ | exact jE | exact oH | (refine uA ?_; simp only [go_sem]; (repeat' first | omega | refine And.intro ?_ ?_); done) | refine rD ?_ | refine cP (a0h s u (by omega)) ?_ | refine cP (a7w s d u dir (by omega) (by omega)) ?_ | refine cP (Opq.specGroup_ok (vis s u) (a4s s d u dir) name (by omega) (by omega)) ?_ | refine aO ?_ | fail)
 exact aA ⟨⟨_, rfl, by simp only [go_sem, grpL]⟩, trivial⟩
theorem b1i {x : TValue × Int} {l : List TGroup} {B : Nat} (hx : dQ x.1 ≤ B) (hl : ∀ g ∈ l, dQ g.fValue ≤ B) : ∀ g ∈ gQ l x, dQ g.fValue ≤ B := fun g hg => by
 rcases insG_mem hg with e | ⟨g', h1, h2⟩
 ·rw [e]; exact hx
 ·rw [← h2]; exact hl g' h1
theorem b1j {B : Nat} (xs : List (TValue × Int)) : ∀ l : List TGroup, (∀ x ∈ xs, dQ x.1 ≤ B) → (∀ g ∈ l, dQ g.fValue ≤ B) → ∀ g ∈ xs.foldl gQ l, dQ g.fValue ≤ B := by
 induction xs with
 | nil => intro l _ h; exact h
 | cons x xs ih => intro l hx hl; exact ih (gQ l x) (fun y hy => hx y (List.mem_cons_of_mem _ hy)) (b1i (hx x List.mem_cons_self) hl)
theorem a3o (n : ByteArray) : ∀ l : List TAttr, dQ (getAttr n l) ≤ wsum wAttr l + 1
 | [] => by
  show (⟨#[]⟩ : ByteArray).size ≤ wsum wAttr [] + 1
  have : (⟨#[]⟩ : ByteArray).size = 0 := rfl
  omega
 | a :: l => by
  have := a3o n l
  unfold getAttr
  split
  ·simp only [wsum, wAttr]; omega
  ·simp only [wsum]; omega
theorem a8C (B : Nat) : ∀ l : List TGroup, (∀ g ∈ l, dQ g.fValue ≤ B) → wsum oN l ≤ l.length * B + wsum (fun g => g.fIDs.length) l
 | [], _ => by simp [wsum]
 | g :: l, h => by
  have h1 := h g List.mem_cons_self
  have h2 := a8C B l fun x hx => h x (List.mem_cons_of_mem _ hx)
  simp only [wsum, oN, List.length_cons, Nat.add_mul, Nat.one_mul]
  omega
theorem b5i (s : TStore) (ids : List Int) (name : ByteArray) (hs : wStore s ≤ 1048576) (hi : ids.length ≤ 12) : uK ((eB s ids name).foldl gQ []) ≤ 67108864 := by
 have h1 := b1j (B := 1048577) (eB s ids name) [] (fun x hx => by
  obtain ⟨id, _, rfl⟩ := List.mem_map.1 hx
  have := a3o name (iT id s.fFiles).fAttrs
  have h2 := a4t id s.fFiles
  have h3 : wsum wAttr (iT id s.fFiles).fAttrs ≤ wFile (iT id s.fFiles) := by unfold wFile dV; omega
  have h4 : dO s.fFiles ≤ wStore s := by unfold wStore; omega
  simp only
  omega) (by simp)
 have h2 := a8C 1048577 _ h1
 have h3 := a9g (eB s ids name) []
 have h4 : (eB s ids name).length = ids.length := by simp [eB]
 simp only [wsum, List.length_nil, Nat.zero_add] at h3
 have h5 : ((eB s ids name).foldl gQ []).length * 1048577 ≤ 12 * 1048577 := Nat.mul_le_mul_right _ (by omega)
 unfold uK
 omega
theorem yY (s : TStore) (d : List TDir) (u : Int) (dir name : ByteArray) (hfs : rM s) (hfd : zC d) : FnC Tryz.prog 4 [cB s, .o (.d (.sl (d.map bH))), oi u, os dir, os name] (ob true) := by
 refine ent Tryz.func4 rfl Tryz.call4 rfl (fun C => ?_); simp only [go_sem, st0, Tryz.ntmps4]
 by_cases hn1 : (1048576 : Int) < dir.size
 ·have q0 := @hn1; refine iB ?_
  exact aA ⟨⟨_, rfl, by simp only [go_sem]⟩, trivial⟩
 by_cases hn2 : (1048576 : Int) < name.size
 ·have q0 := @hn1; have q1 := @hn2; refine jB ?_
  exact aA ⟨⟨_, rfl, by simp only [go_sem]⟩, trivial⟩
 have z1 := a7L s 1048576 (by omega) hfs
 by_cases h1 : bZ 1048576 (wStore s) < 0
 ·have q0 := @hn1; have q1 := @hn2; have q2 := @h1; refine kG z1 ?_
  exact aA ⟨⟨_, rfl, by simp only [go_sem]⟩, trivial⟩
 have s1 : wStore s ≤ 1048576 := by have := a5O h1; omega
 have e1 : bZ 1048576 (wStore s) = 1048576 - (wStore s : Nat) := bP (by omega)
 rw [e1] at z1 h1
 have z2 := a9U d (1048576 - (wStore s : Nat)) (by omega) hfd
 by_cases h2 : bZ (1048576 - (wStore s : Nat)) (dM d) < 0
 ·have q0 := @hn1; have q1 := @hn2; have q2 := @h1; have q3 := @h2; refine xR z1 z2 ?_
  exact aA ⟨⟨_, rfl, by simp only [go_sem]⟩, trivial⟩
 have s2 : wStore s + dM d ≤ 1048576 := by have := a5O h2; omega
 have hb1 : wStore s = aL s.fSchema + dO s.fFiles := rfl
 have hb2 : dO s.fFiles = s.fFiles.length + wsum wFile s.fFiles := rfl
 have hb3 : s.fSchema.length ≤ aL s.fSchema := by unfold aL; omega
 have hb4 : dM d = d.length + wsum wDir d := rfl
 have hc1 := b0a s.fSchema
 have hc2 := b1L s.fFiles
 have hc3 := b3e d
 have hX : uK (grpL s d u dir name) ≤ 67108864 := b5i _ _ _ (by have := a5K s u; omega) (a4p s d u dir)
 have hi := a4q s d u dir name (by omega) (by omega)
 have hk := a4r s d u dir name (by omega) (by omega)
 generalize grpL s d u dir name = X at *
 have hb6 : uK X = X.length + wsum oN X := rfl
 have hc6 := b0b X
 have k1 : ¬ ((1 : Int) + (csum cnField s.fSchema : Nat) + (csum cnFile s.fFiles : Nat) + (csum cnDir d : Nat) < 0) := by omega
 have k2 : ¬ ((1 : Int) + (csum cnGroup X : Nat) < 0) := by omega
 have q0 := @hn1; have q1 := @hn2; have q2 := @h1; have q3 := @h2; have q4 := @k1; have q5 := @k2; refine a1B z1 z2 ?_
 have qH := trivial; repeat' (with_reducible first | refine nX ?_ | (refine mX ?_; try simp only [go_sem]) | refine kD ?_ | refine cP (a0k s (by omega)) ?_ | refine cP (a1T d (by omega)) ?_ | refine vO hk ?_ | refine vQ hk ?_ | refine aO ?_ | fail)
 have qH := aI @hn1 (aI @hn2 (aI @h1 (aI @h2 (aI @k1 @k2)))); repeat' (with_reducible first | refine nY ?_ | (refine mX ?_; try simp only [go_sem, qH]) | refine kD ?_ | refine rD ?_ | refine vO (wM s (by omega)) ?_ | refine vQ (wM s (by omega)) ?_ | refine vO (zG d (by omega)) ?_ | refine vQ (zG d (by omega)) ?_ | refine vO hi ?_ | refine vQ hi ?_ | refine vO (a0j X (by omega)) ?_ | refine vQ (a0j X (by omega)) ?_ | refine vO (a1Q s (by omega)) ?_ | refine vQ (a1Q s (by omega)) ?_ | refine vO (a3w d (by omega)) ?_ | refine vQ (a3w d (by omega)) ?_ | refine vM (a4B s _ (by omega)) ?_ | refine vM (a6d d _ (by omega)) ?_ | refine vM (a2F X _ (by omega)) ?_ | refine vO (vF X 1 (by omega)) ?_ | refine vQ (vF X 1 (by omega)) ?_ | refine cP (a0k s (by omega)) ?_ | refine cP (a1T d (by omega)) ?_ | refine aO ?_ | fail)
 exact aA ⟨⟨_, rfl, by simp only [go_sem]⟩, trivial⟩
end Go.Proofs.YtakopfjdmmnjcaaGreat
end
