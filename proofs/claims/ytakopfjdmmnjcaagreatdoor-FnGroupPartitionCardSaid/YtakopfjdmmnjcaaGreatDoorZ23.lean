/- Joined texts. -/
import Derived.Test.YtakopfjdmmnjcaaGreatDoorZ15
import Derived.Test.YtakopfjdmmnjcaaGreatDoorZ14
import Derived.Test.YtakopfjdmmnjcaaGreatDoorZ11
import Derived.Test.YtakopfjdmmnjcaaGreatDoorZ16
import Derived.Test.YtakopfjdmmnjcaaGreatDoorZ10
import Derived.Test.YtakopfjdmmnjcaaGreatDoorZ22
import Derived.Test.YtakopfjdmmnjcaaGreatDoorZ20
set_option linter.all false
section
set_option maxRecDepth 100000
set_option maxHeartbeats 4000000
namespace Go.Proofs.YtakopfjdmmnjcaaGreatDoor
open Go Go.Sx Go.RowKit Go.Proofs
theorem a6H (s : TStore) (id : Int) (h : aW s ≤ 4300000) : FnC Tryz.prog 28 [bX s, oi id] (.t [(true, (jQ (gU id s.fFiles)).cells), (false, [.d (bv (decide (0 ≤ ixF id s.fFiles)))])]) := (a7I s id h).pu (by simp only [go_sem, and_self])
def nwG (v : TValue) : cB := (⟨v, []⟩, .slice none 0 0)
namespace Opq
theorem b4h (v : TValue) (p : cB) : FnC Tryz.prog 31 [gO p, .o (.q [iv v.fKind, iv v.fInt, sv v.fStr])] (ob (pQ v p)) := by
 refine ent Tryz.func31 rfl Tryz.call31 rfl (fun C => ?_); simp only [go_sem, st0, Tryz.ntmps31]
 refine aD ?_
 exact aA ⟨⟨_, rfl, by simp only [go_sem, pQ, xQ]⟩, trivial⟩
theorem a4k (f : Nat) (c : List D) (p : cB → Bool) (l : List cB) (hf : ∀ s ∈ l, FnC Tryz.prog f [gO s, .o (.q c)] (ob (p s))) (hl : l.length ≤ 8388608) : FnC Tryz.prog 30 [.o (.d (.sl (l.map pO))), .o (.f f [c])] (oi (idxP p l 0)) := by
 refine ent Tryz.func30 rfl Tryz.call30 rfl (fun C => ?_); simp only [go_sem, st0, Tryz.ntmps30]
 refine aD ?_
 refine aY (α := Nat) (fun k => [(8, oi k)]) (fun _ => []) (fun k => k ≤ l.length ∧ idxP p l 0 = idxP p (l.drop k) k) (fun k => l.length - k) 0 (fun _ => ?_) ?_ ?_ (fun k hk => ?_)
 ·simp only [go_sem]
 ·simp only [go_sem]; simp
 ·simp
 ·obtain ⟨hk, hq⟩ := hk
  simp only [go_sem]
  refine aD ?_
  refine cnd rfl (fun h => ?_) (fun h => ?_)
  ·simp only [decide_eq_true_eq, Int.ofNat_lt] at h
   have hd := List.drop_eq_getElem_cons h
   rw [hd, idxP] at hq
   have q0 := @h; refine lF (hf l[k] (List.getElem_mem h)) ?_
   refine cnd rfl (fun h2 => ?_) (fun h2 => ?_)
   ·refine aD ?_
    exact aA ⟨⟨_, rfl, by simp only [go_sem, hq, h2]⟩, trivial⟩
   ·refine aD ?_
    refine aF (k + 1) ?_ ?_ ?_
    ·simp only [go_sem]; simp
    ·rw [hq, h2]; exact ⟨h, by simp⟩
    ·omega
  ·simp only [decide_eq_false_iff_not] at h
   have e : k = l.length := by omega
   subst e
   simp only [List.drop_length, idxP] at hq
   refine aD ?_
   exact aA ⟨⟨_, rfl, by simp only [go_sem, hq]⟩, trivial⟩
def SortsG (n : Nat) : Prop := ∀ its : List cB, jS (its.map (·.1)) → its.length ≤ n → ∃ its' : List cB, its'.Perm its ∧ (its'.map (·.1)).Pairwise ltG ∧
    FnI Tryz.prog 32 49 4 (its.map pO) [.o (.f 33 [])] true (its'.map pO)
theorem implGroup_ok (n : Nat) (hSort : SortsG n) (s : TStore) (ids : List Int) (name : ByteArray) (h : aW s ≤ 1048576) (hi : ids.length ≤ 1048576) (hn : ids.length ≤ n) :
    FnC Tryz.prog 6 [bX s, .o (.d (.sl (ids.map eZ))), os name] (.o (.w 49 4 (((dW s ids name).foldl fO []).map dO))) := by
 refine ent Tryz.func6 rfl Tryz.call6 rfl (fun C => ?_); simp only [go_sem, st0, Tryz.ntmps6]
 refine aD ?_
 refine WP.sees (Sees.pool0 3 1) ?_
 simp only [go_sem]
 refine aY (α := Nat × List cB) (fun x => [(7, .o (.s 1)), (17, oi x.1), (14, .o .u)]) (fun x => [(1, .row 49 4 (x.2.map pO) true), (2, .pool 3 1 (x.2.map wG))]) (fun x => x.1 ≤ ids.length ∧ x.2.map (·.1) = ((dW s ids name).take x.1).foldl lW []) (fun x => ids.length - x.1) (0, []) (fun _ => ?_) ?_ ?_ (fun x hx => ?_)
 ·simp only [go_sem]
 ·simp only [go_sem]; simp
 ·simp
 ·obtain ⟨k, its⟩ := x
  obtain ⟨hk, hq⟩ := hx
  simp only at hk hq
  simp only [go_sem]
  refine aD ?_
  refine cnd rfl (fun h1 => ?_) (fun h1 => ?_)
  ·simp only [decide_eq_true_eq, Int.ofNat_lt] at h1
   have hfw : bV (gU ids[k] s.fFiles) ≤ 4300000 := by have := a0p ids[k] s.fFiles; unfold aW at h; omega
   have hG := jD (gU ids[k] s.fFiles) name hfw
   have hvk : (dW s ids name).take (k + 1) = (dW s ids name).take k ++ [(getAttr name (gU ids[k] s.fFiles).fAttrs, ids[k])] := by
    rw [List.take_succ_eq_append_getElem (by simpa [dW] using h1)]
    simp [dW]
   generalize getAttr name (gU ids[k] s.fFiles).fAttrs = v at hG hvk
   have hsum := a7O ((dW s ids name).take k) []
   rw [← hq] at hsum
   have hvl : ((dW s ids name).take k).length = k := by simp [dW]; omega
   rw [hvl] at hsum
   simp only [bG, List.length_nil, List.length_map, Nat.zero_add] at hsum
   have hil : its.length ≤ k := hsum.2
   have hI := a4k _ _ (pQ v) its (fun p _ => b4h v p) (by omega)
   have hsp := idxP_spec (pQ v) its 0
   generalize idxP (pQ v) its 0 = q at hI hsp
   have qH := @h1; repeat' (with_reducible first | refine nY ?_ | (refine mX ?_; try simp only [go_sem, qH]) | refine kD ?_ | refine rD ?_ | refine cP (a6H s ids[k] (by omega)) ?_ | refine cP hG ?_ | refine vL hI ?_ | refine aO ?_ | fail)
   refine cnd rfl (fun h2 => ?_) (fun h2 => ?_)
   ·simp only [decide_eq_true_eq] at h2
    rcases hsp with ⟨rfl, hall⟩ | ⟨k0, rfl, _⟩
    case inr => omega
    refine WP.sees (Sees.poolN 2 rfl) ?_
    simp only [go_sem]
    have hrow : its.map pO ++ [[iv v.fKind, iv v.fInt, sv v.fStr, .v (.slice none 0 0)]] = (its ++ [nwG v]).map pO := by simp [pO, nwG]
    have hlen : its.length < (its ++ [nwG v]).length := by simp
    have q0 := @hrow; have q1 := @hlen; refine gG ?_
    refine ⟨by simp, b2S fun z2 => ?_⟩
    have q0 := @hrow; have q1 := @hlen; refine gG ?_
    refine b6p 2 its.length 6 [] [[.int .i64 ids[k]]] rfl rfl ?_ (List.mem_singleton.2 rfl) (by simp) ?_ (fun z' => ?_)
    ·simp [nwG]
    ·simp only [go_sem]
    ·simp only [go_sem]
     have q0 := @hrow; have q1 := @hlen; refine gG ?_
     refine aF (k + 1, (its ++ [nwG v]).set its.length (⟨v, [ids[k]]⟩, z')) ?_ ?_ ?_
     ·simp only [go_sem]; simp [List.map_set, pO, wG, nwG]
     ·refine ⟨h1, ?_⟩
      simp only
      rw [hvk, List.foldl_append, ← hq]
      simp only [List.foldl_cons, List.foldl_nil]
      rw [a7M v ids[k] hall]
      simp
     ·simp only; omega
   ·simp only [decide_eq_false_iff_not] at h2
    rcases hsp with ⟨rfl, hall⟩ | ⟨k0, rfl, hk0, ht, hlt⟩
    case inl => omega
    simp only [Nat.zero_add]
    have q0 := @hk0; refine fF ?_
    refine ⟨by simp, b2S fun z2 => ?_⟩
    have q0 := @hk0; refine fF ?_
    refine b6p 2 k0 5 (its[k0].1.fIDs.map fun i => [.int .i64 i]) [[.int .i64 ids[k]]] rfl rfl ?_ (List.mem_singleton.2 rfl) (by simp) ?_ (fun z' => ?_)
    ·rw [List.getElem?_map, List.getElem?_eq_getElem hk0]; rfl
    ·have hi2 := dF (fun g : TGroup => g.fIDs.length) (its.map (·.1)) (k := k0) (by simpa using hk0)
     simp only [List.getElem_map] at hi2
     simp only [go_sem, List.length_map, List.length_cons, List.length_nil]
     omega
    ·simp only [go_sem]
     have q0 := @hk0; refine fF ?_
     refine aF (k + 1, its.set k0 (⟨its[k0].1.fValue, its[k0].1.fIDs ++ [ids[k]]⟩, z')) ?_ ?_ ?_
     ·simp only [go_sem]; simp [List.map_set, pO, wG]
     ·refine ⟨h1, ?_⟩
      simp only
      rw [hvk, List.foldl_append, ← hq]
      simp only [List.foldl_cons, List.foldl_nil]
      exact (a7L v ids[k] z' hk0 ht hlt).symm
     ·simp only; omega
  ·simp only [decide_eq_false_iff_not] at h1
   have e : k = ids.length := by omega
   subst e
   have hvl : (dW s ids name).length = ids.length := by simp [dW]
   rw [← hvl, List.take_length] at hq
   have hsum := a7O (dW s ids name) []
   rw [← hq] at hsum
   simp only [bG, List.length_nil, List.length_map, Nat.zero_add] at hsum
   obtain ⟨hap, hsrt, hmem⟩ := a4Y (dW s ids name) [] [] List.Pairwise.nil List.Pairwise.nil fun g => Iff.rfl
   obtain ⟨its', hp, hs, hS⟩ := hSort its (by rw [hq]; exact hap) (by omega)
   have hfin : its'.map (·.1) = (dW s ids name).foldl fO [] := a4c _ (fun g => by rw [← hq]; exact (hp.map (·.1)).mem_iff) hs
   rw [← hfin]
   have qH := trivial; repeat' (with_reducible first | refine nY ?_ | (refine mX ?_; try simp only [go_sem]) | refine kD ?_ | refine rD ?_ | refine vI hS ?_ | refine vJ hS ?_ | refine aO ?_ | fail)
   refine nP (Sees.unpool 1 2 (its'.map itO) (by rw [List.map_map]; rfl) rfl (by rw [List.map_map]; exact (hp.map wG).symm)) ?_
   simp only [go_sem]
   have hclr : (its'.map itO).map qW = (its'.map (·.1)).map dO := by
    rw [List.map_map, List.map_map]
    exact List.map_congr_left fun p _ => b0G p
   exact aA ⟨⟨_, rfl, by simp only [go_sem, hclr]⟩, trivial⟩
end Opq
end Go.Proofs.YtakopfjdmmnjcaaGreatDoor
end
section
set_option maxRecDepth 100000
set_option maxHeartbeats 4000000
namespace Go.Proofs.YtakopfjdmmnjcaaGreatDoor
open Go Go.Sx Go.RowKit Go.Proofs Go.Sort
theorem b4g (d : Array cB) (a : Nat) : Sort.insertionSort ltO d a a = d := by
 unfold Sort.insertionSort
 exact insOuter_stop _ _ _ _ _ (by omega)
theorem a3R : FnC Tryz.prog 58 [.o (.d (.sl [])), oi 0, .o (.f 33 [])] (.t []) := by
 have hI : FnC Tryz.prog 88 [.o (.d (.sl [])), oi 0, oi 0, .o (.f 33 [])] (.t []) := a1D
 refine ent Tryz.func58 rfl Tryz.call58 rfl (fun C => ?_); simp only [go_sem, st0, Tryz.ntmps58]
 refine aD ?_
 refine aY (α := Unit) (fun _ => [(7, oi 0), (8, oi 20)]) (fun _ => []) (fun _ => True) (fun _ => 0) () (fun _ => ?_) ?_ trivial (fun _ _ => ?_)
 ·simp only [go_sem]
 ·simp only [go_sem]; simp
 ·simp only [go_sem]
  refine iE hI ?_
  refine aY (α := Unit) (fun _ => [(6, oi 20)]) (fun _ => []) (fun _ => True) (fun _ => 0) () (fun _ => ?_) ?_ trivial (fun _ _ => ?_)
  ·simp only [go_sem]
  ·simp only [go_sem]; simp
  ·simp only [go_sem]
   refine aD ?_
   exact vH ⟨⟨_, rfl, by simp only [go_sem]⟩, by simp [cO]⟩
theorem a6E (d : Array cB) (hs : d.size ≤ 20) :
    FnI Tryz.prog 58 49 4 (iA d) [oi d.size, .o (.f 33 [])] true (iA (Sort.insertionSort ltO d 0 d.size)) := by
 have hz : (Sort.insertionSort ltO d 0 d.size).size = d.size := a3v 0 d.size _ _ d rfl
 refine b6X Tryz.func58 rfl Tryz.call58 rfl (lV d) (lV _) (by rw [kM, kM]; exact hz) (fun h0 => ?_) (fun hne C y => ?_)
 ·rw [a0Z h0]; exact a3R
 ·simp only [go_sem, Tryz.ntmps58]
  by_cases h20 : d.size = 20
  ·have hI0 : FnI Tryz.prog 88 49 4 (iA d) [oi 0, oi 20, .o (.f 33 [])] true (iA (Sort.insertionSort ltO d 0 d.size)) := by
    rw [h20]; exact yR d 0 20 (by omega) (by omega) (by omega)
   have hI : FnI Tryz.prog 88 49 4 (iA (Sort.insertionSort ltO d 0 d.size)) [oi 20, oi 20, .o (.f 33 [])] true (iA (Sort.insertionSort ltO d 0 d.size)) := by
    have := yR (Sort.insertionSort ltO d 0 d.size) 20 20 (by omega) (by omega) (by omega)
    rw [b4g] at this
    exact this
   have hz20 : (d.size : Int) = 20 := by omega
   generalize Sort.insertionSort ltO d 0 d.size = d1 at hI hI0
   rw [hz20]
   refine aD ?_
   refine aY (α := Bool) (fun x => [(7, oi (bif x then 20 else 0)), (8, oi (bif x then 40 else 20))]) (fun x => [(0, .row 49 4 (iA (bif x then d1 else d)) true)]) (fun _ => True) (fun x => bif x then 0 else 1) false (fun _ => ?_) ?_ trivial (fun x _ => ?_)
   ·simp only [go_sem]
   ·simp only [go_sem]; simp
   ·simp only [go_sem]
    cases x with
    | false =>
     simp only [cond_false]
     have qH := trivial; repeat' (with_reducible first | refine nY ?_ | (refine mX ?_; try simp only [go_sem]) | refine kD ?_ | refine rD ?_ | refine vI hI0 ?_ | refine vJ hI0 ?_ | refine aO ?_ | fail)
     refine aF true ?_ trivial (by simp)
     simp only [go_sem]; simp
    | true =>
     simp only [cond_true]
     have qH := trivial; repeat' (with_reducible first | refine nY ?_ | (refine mX ?_; try simp only [go_sem]) | refine kD ?_ | refine rD ?_ | refine vI hI ?_ | refine vJ hI ?_ | refine aO ?_ | fail)
     refine aY (α := Unit) (fun _ => [(6, oi 20)]) (fun _ => []) (fun _ => True) (fun _ => 0) () (fun _ => ?_) ?_ trivial (fun _ _ => ?_)
     ·simp only [go_sem]
     ·simp only [go_sem]; simp
     ·simp only [go_sem]
      refine aD ?_
      exact qK rfl rfl
  ·have hl : ¬ ((20 : Int) ≤ (d.size : Int)) := by omega
   have hl2 : ¬ ((20 : Int) < (d.size : Int)) := by omega
   have hI : FnI Tryz.prog 88 49 4 (iA d) [oi 0, oi d.size, .o (.f 33 [])] true (iA (Sort.insertionSort ltO d 0 d.size)) := yR d 0 d.size (by omega) (by omega) (by omega)
   generalize Sort.insertionSort ltO d 0 d.size = d1 at hI
   refine aD ?_
   refine aY (α := Unit) (fun _ => [(7, oi 0), (8, oi 20)]) (fun _ => []) (fun _ => True) (fun _ => 0) () (fun _ => ?_) ?_ trivial (fun _ _ => ?_)
   ·simp only [go_sem]
   ·simp only [go_sem]; simp
   ·simp only [go_sem]
    have qH := aI @hl @decide_false; repeat' (with_reducible first | refine nY ?_ | (refine mX ?_; try simp only [go_sem, qH]) | refine kD ?_ | refine rD ?_ | refine vI hI ?_ | refine vJ hI ?_ | refine aO ?_ | fail)
    refine aY (α := Unit) (fun _ => [(6, oi 20)]) (fun _ => []) (fun _ => True) (fun _ => 0) () (fun _ => ?_) ?_ trivial (fun _ _ => ?_)
    ·simp only [go_sem]
    ·simp only [go_sem]; simp
    ·simp only [go_sem]
     have q0 := @hl2; have q1 := @decide_false; refine gG ?_
     exact qK rfl rfl
theorem b5G : SWO ltO := by
 refine ⟨fun x => ?_, fun x y z h1 h2 => ?_, fun x y z h1 h2 => ?_⟩
 ·unfold ltO
  rw [decide_eq_false_iff_not, nK]; exact pR _
 ·unfold ltO at h1 h2 ⊢
  rw [decide_eq_true_eq, nK] at h1 h2 ⊢
  exact sF _ _ _ h1 h2
 ·unfold ltO at h1 h2 ⊢
  rw [decide_eq_false_iff_not, nK] at h1 h2 ⊢
  intro h3
  by_cases e : x.1.fValue = y.1.fValue
  ·rw [e] at h3; exact h2 h3
  ·exact h2 (sF _ _ _ (a2x h1 e) h3)
theorem a6F {d : Array cB} (h : SortedIn ltO 0 d.size d) (ha : jS (d.toList.map (·.1))) : (d.toList.map (·.1)).Pairwise ltG := by
 rw [List.pairwise_iff_getElem] at *
 unfold jS at ha
 rw [List.pairwise_iff_getElem] at ha
 intro i j hi hj hij
 have hi' : i < d.toList.length := by simpa using hi
 have hj' : j < d.toList.length := by simpa using hj
 have h1 := h i j (by omega) hij (by simpa using hj')
 have h2 := ha i j hi hj hij
 rw [← mO d i hi', ← mO d j hj'] at h1
 simp only [List.getElem_map] at h2 ⊢
 unfold ltO at h1
 rw [decide_eq_false_iff_not, nK] at h1
 exact a2x h1 (fun e => h2 e.symm)
theorem a9Q {l m : List TGroup} (h : l.Perm m) (ha : jS l) : jS m := by
 unfold jS at *
 exact (h.pairwise_iff (fun {a b} hab => fun e => hab e.symm)).1 ha
theorem a6G {d d' : Array cB} (h : PermIn 0 d.size d d') : d'.toList.Perm d.toList := by
 have := h.2.2
 have h1 := h.1
 rw [show d'.extract 0 d.size = d' by rw [← h1]; simp, show d.extract 0 d.size = d by simp] at this
 exact this
theorem a4j (d d1 : Array cB) (hz : d1.size = d.size) (hS : FnI Tryz.prog 58 49 4 (iA d) [oi d.size, .o (.f 33 [])] true (iA d1))
    (hN : d.size = 0 → FnC Tryz.prog 58 [.o (.d (.sl [])), oi 0, .o (.f 33 [])] (.t [])) :
    FnI Tryz.prog 32 49 4 (iA d) [.o (.f 33 [])] true (iA d1) := by
 have hlen := kM d
 refine b6X Tryz.func32 rfl Tryz.call32 rfl (lV d) (lV _) (by rw [kM, kM]; exact hz) (fun h0 => ?_) (fun hne C y => ?_)
 ·have hN : FnC Tryz.prog 58 [.o (.d (.sl [])), oi ((0 : Nat) : Int), .o (.f 33 [])] (.t []) := hN (a0Z h0)
  refine ent Tryz.func32 rfl Tryz.call32 rfl (fun C => ?_); simp only [go_sem, st0, Tryz.ntmps32]
  refine iE hN ?_
  exact vH ⟨⟨_, rfl, by simp only [go_sem]⟩, by simp [cO]⟩
 ·simp only [go_sem, Tryz.ntmps32]
  have qH := @hlen; repeat' (with_reducible first | refine nY ?_ | (refine mX ?_; try simp only [go_sem, qH]) | refine kD ?_ | refine rD ?_ | refine vI hS ?_ | refine vJ hS ?_ | refine aO ?_ | fail)
  exact qK rfl rfl
theorem a8A (its : List cB) (hap : jS (its.map (·.1))) (hl : its.length ≤ 20) : ∃ its' : List cB, its'.Perm its ∧ (its'.map (·.1)).Pairwise ltG ∧
    FnI Tryz.prog 32 49 4 (its.map pO) [.o (.f 33 [])] true (its'.map pO) := by
 obtain ⟨h1, h2⟩ := insertionSort_holds b5G its.toArray 0 its.toArray.size (Nat.zero_le _) (Nat.le_refl _)
 have hp := a6G h1
 refine ⟨(Sort.insertionSort ltO its.toArray 0 its.toArray.size).toList, hp, ?_, ?_⟩
 ·refine a6F (by rw [h1.1]; exact h2) (a9Q (hp.map (·.1)).symm (by simpa using hap))
 ·exact a4j its.toArray _ h1.1 (a6E its.toArray (by simpa using hl)) (fun _ => a3R)
theorem a1Y : Opq.SortsG 20 := fun its hap hl => a8A its hap hl
end Go.Proofs.YtakopfjdmmnjcaaGreatDoor
end
section
set_option maxRecDepth 100000
set_option maxHeartbeats 4000000
namespace Go.Proofs.YtakopfjdmmnjcaaGreatDoor
open Go Go.Sx Go.RowKit Go.Proofs
theorem b5s (s : TStore) (d : List TDir) : ∀ x ∈ (evX s d [] (dirNs d)).1, x.fIDs.length ≤ 12 := by
 unfold evX
 split
 ·rename_i hb
  rw [Bool.and_eq_true] at hb
  obtain ⟨hv, hleast⟩ := a0w hb.1
  have h12 := qQ hb.2
  have hev := a0B (fs := s.fFiles) (ns := dirNs d) (r := []) (fun i (hi : i < d.length) => lY hv i hi) hleast.clo (wO d (resL d))
  have h0 : bL [] = 0 := by simp [bL, bG]
  revert hev
  generalize (allE s.fFiles d (resL d) (dirNs d) (s.fFiles.length + bL []) [] (wO d (resL d))).1 = X
  rw [h0]
  intro hev x hx
  obtain ⟨i, hi, rfl⟩ := List.mem_iff_getElem.1 hx
  have hlen := hev.len
  obtain ⟨e1, e2⟩ := hev.get i (by omega)
  have h2 := hev.bd i
  rw [e2]
  omega
 ·intro x hx; simp at hx
theorem a5m (n : ByteArray) : ∀ r : List TResult, (∀ x ∈ r, x.fIDs.length ≤ 12) → (bP n r).length ≤ 12
 | [], _ => by simp [bP]
 | x :: r, h => by
  unfold bP
  split
  ·exact h x List.mem_cons_self
  ·exact a5m n r fun y hy => h y (List.mem_cons_of_mem _ hy)
theorem a6v (s : TStore) (d : List TDir) (u : Int) (n : ByteArray) : (a4g s d u n).length ≤ 12 := by
 refine a5m n _ ?_
 unfold evU
 split
 ·exact b5s _ _
 ·intro x hx; simp at hx
noncomputable def grpL (s : TStore) (d : List TDir) (u : Int) (dir name : ByteArray) : List TGroup := (dW (vis s u) (a4g s d u dir) name).foldl fO []
theorem a6w (s : TStore) (d : List TDir) (u : Int) (dir name : ByteArray) (hs : aW s ≤ 1048576) (hd : gN d ≤ 1048576) : FnC Tryz.prog 15 [bX s, .o (.d (.sl (d.map bY))), oi u, os dir, os name] (.o (.w 49 4 ((grpL s d u dir name).map dO))) := by
 have hl := a6v s d u dir
 have hv := a8r s u
 refine ent Tryz.func15 rfl Tryz.call15 rfl (fun C => ?_); simp only [go_sem, st0, Tryz.ntmps15]
 have qH := trivial; repeat' (with_reducible first | refine nY ?_ | (refine mX ?_; try simp only [go_sem]) | refine kD ?_ | (apply rE [2,7,9] [] [0,1,3,4,5,6,8] [0,1,3,4,5,6,8] ((.c 2 [] [3,4,5,6,8] (.c 7 [] [8] (.c 9 [10] [10] .n .n) .n) .n)) (by simp only [go_sem]; rfl) (by simp only [go_sem]; rfl) (by simp only [go_sem]; rfl) (by decide +kernel); (focus simp only [go_sem]; done)) | exact aT | refine aK (uX ?_) ?_ | refine aL (aX ?_) ?_ | refine aM (aX ?_) ?_ | exact bH | exact oH | (refine uA ?_; simp only [go_sem]; (repeat' first | omega | refine And.intro ?_ ?_); done) | refine rD ?_ | refine cP (a1N s u (by omega)) ?_ | refine cP (a9J s d u dir (by omega) (by omega)) ?_ | refine cP (Opq.implGroup_ok 20 a1Y (vis s u) (a4g s d u dir) name (by omega) (by omega) (by omega)) ?_ | refine aO ?_ | fail)
 exact aA ⟨⟨_, rfl, by simp only [go_sem, grpL]⟩, trivial⟩
theorem a6x (s : TStore) (d : List TDir) (u : Int) (dir name : ByteArray) (hs : aW s ≤ 1048576) (hd : gN d ≤ 1048576) : FnC Tryz.prog 16 [bX s, .o (.d (.sl (d.map bY))), oi u, os dir, os name] (.o (.w 49 4 ((grpL s d u dir name).map dO))) := by
 have hl := a6v s d u dir
 have hv := a8r s u
 refine ent Tryz.func16 rfl Tryz.call16 rfl (fun C => ?_); simp only [go_sem, st0, Tryz.ntmps16]
 have qH := trivial; repeat' (with_reducible first | refine nY ?_ | (refine mX ?_; try simp only [go_sem]) | refine kD ?_ | (apply rE [2,7,9] [] [0,1,3,4,5,6,8] [0,1,3,4,5,6,8] ((.c 2 [] [3,4,5,6,8] (.c 7 [] [8] (.c 9 [10] [10] .n .n) .n) .n)) (by simp only [go_sem]; rfl) (by simp only [go_sem]; rfl) (by simp only [go_sem]; rfl) (by decide +kernel); (focus simp only [go_sem]; done)) | exact aT | refine aK (uX ?_) ?_ | refine aL (aX ?_) ?_ | refine aM (aX ?_) ?_ | exact bH | exact oH | (refine uA ?_; simp only [go_sem]; (repeat' first | omega | refine And.intro ?_ ?_); done) | refine rD ?_ | refine cP (a1O s u (by omega)) ?_ | refine cP (a9K s d u dir (by omega) (by omega)) ?_ | refine cP (Opq.specGroup_ok (vis s u) (a4g s d u dir) name (by omega) (by omega)) ?_ | refine aO ?_ | fail)
 exact aA ⟨⟨_, rfl, by simp only [go_sem, grpL]⟩, trivial⟩
def gsz (l : List TGroup) : List Int := l.map fun g => (g.fIDs.length : Int)
theorem zA (l : List TGroup) : (gsz l).length = l.length := by simp [gsz]
theorem a0D (l : List TGroup) (h : fD l ≤ 1048576) : FnC Tryz.prog 20 [.o (.d (.sl (l.map dO)))] (.o (.w 3 1 ((gsz l).map eZ))) := by
 unfold fD at h
 refine ent Tryz.func20 rfl Tryz.call20 rfl (fun C => ?_); simp only [go_sem, st0, Tryz.ntmps20]
 refine aD ?_
 refine aY (α := Nat) (fun k => [(3, .o (.s 0)), (4, oi k), (5, .o .u)]) (fun k => [(0, .row 3 1 ((gsz (l.take k)).map eZ) true)]) (fun k => k ≤ l.length) (fun k => l.length - k) 0 (fun _ => ?_) ?_ ?_ (fun k hk => ?_)
 ·simp only [go_sem]
 ·simp only [go_sem]; simp [gsz]
 ·simp
 ·simp only [go_sem]
  refine aD ?_
  refine cnd rfl (fun h1 => ?_) (fun h1 => ?_)
  ·simp only [decide_eq_true_eq, Int.ofNat_lt] at h1
   have ht : gsz (l.take (k + 1)) = gsz (l.take k) ++ [(l[k].fIDs.length : Int)] := by simp only [gsz, List.take_succ_eq_append_getElem h1, List.map_append, List.map_cons, List.map_nil]
   have hlen : (gsz (l.take k)).length = k := by rw [zA]; simp; omega
   have q0 := @h1; have q1 := @hlen; refine gG ?_
   refine aF (k + 1) ?_ ?_ ?_
   ·simp only [go_sem, ht, List.map_append]; simp
   ·omega
   ·omega
  ·simp only [decide_eq_false_iff_not] at h1
   have e : k = l.length := by omega
   subst e
   refine aD ?_
   exact aA ⟨⟨_, rfl, by simp only [go_sem, List.take_length]⟩, trivial⟩
theorem a0E (l : List TGroup) (h : fD l ≤ 1048576) : FnC Tryz.prog 19 [.o (.d (.sl (l.map dO)))] (.o (.w 3 1 ((gsz l).map eZ))) := by
 unfold fD at h
 refine ent Tryz.func19 rfl Tryz.call19 rfl (fun C => ?_); simp only [go_sem, st0, Tryz.ntmps19]
 refine aD ?_
 refine aY (α := Nat) (fun k => [(3, .o (.s 0)), (6, .o .u), (9, oi k)]) (fun k => [(0, .row 3 1 ((gsz (l.take k)).map eZ) true)]) (fun k => k ≤ l.length) (fun k => l.length - k) 0 (fun _ => ?_) ?_ ?_ (fun k hk => ?_)
 ·simp only [go_sem]
 ·simp only [go_sem]; simp [gsz]
 ·simp
 ·simp only [go_sem]
  refine aD ?_
  refine cnd rfl (fun h1 => ?_) (fun h1 => ?_)
  ·simp only [decide_eq_true_eq, Int.ofNat_lt] at h1
   have ht : gsz (l.take (k + 1)) = gsz (l.take k) ++ [(l[k].fIDs.length : Int)] := by simp only [gsz, List.take_succ_eq_append_getElem h1, List.map_append, List.map_cons, List.map_nil]
   have hlen : (gsz (l.take k)).length = k := by rw [zA]; simp; omega
   have q0 := @h1; have q1 := @hlen; refine gG ?_
   refine aF (k + 1) ?_ ?_ ?_
   ·simp only [go_sem, ht, List.map_append]; simp
   ·omega
   ·omega
  ·simp only [decide_eq_false_iff_not] at h1
   have e : k = l.length := by omega
   subst e
   refine aD ?_
   exact aA ⟨⟨_, rfl, by simp only [go_sem, List.take_length]⟩, trivial⟩
theorem yN {α : Type} (f : α → Nat) : ∀ (l : List α) (k : Nat) (h : k < l.length), bG f (l.take (k + 1)) = bG f (l.take k) + f l[k]
 | [], _, h => by simp at h
 | x :: l, 0, _ => by simp [bG]
 | x :: l, k + 1, h => by
  have := yN f l k (by simpa using h)
  simp only [List.take_succ_cons, bG, List.getElem_cons_succ] at this ⊢
  omega
theorem a3d {α : Type} (f : α → Nat) : ∀ (l : List α) (k : Nat), bG f (l.take k) ≤ bG f l
 | [], _ => by simp
 | x :: l, 0 => by simp [bG]
 | x :: l, k + 1 => by
  have := a3d f l k
  simp only [List.take_succ_cons, bG]
  omega
theorem a9j (l : List Int) (hf : wfU l) : FnC Tryz.prog 3 [.o (.d (.sl (l.map nH)))] (ob true) := by
 refine ent Tryz.func3 rfl Tryz.call3 rfl (fun C => ?_); simp only [go_sem, st0, Tryz.ntmps3]
 have hbig := b5o l hf.1
 by_cases g : (1048576 : Int) < (l.length : Int)
 ·have g' : decide ((1048576 : Int) < (l.length : Int)) = true := by simp [g]
  have q0 := @g'; refine lF hbig ?_
  exact aA ⟨⟨_, rfl, by simp only [go_sem]⟩, trivial⟩
 have g' : decide ((1048576 : Int) < (l.length : Int)) = false := by simp [g]
 have hl : fP l := ⟨by omega, hf.2⟩
 have q0 := @g'; refine lF hbig ?_
 refine a1z (a4L hl) rfl rfl ?_
 rintro ⟨s, ids, nm⟩ ⟨hs, hi, hn⟩
 simp only at hs hi hn
 simp only [go_sem]
 have hsw := rX hs
 have hil := hi.len
 have hb := a9s 600 s ids nm hsw
 have hb2 : ids.length * (600 + 3) ≤ 7 * (600 + 3) := Nat.mul_le_mul_right _ (by omega)
 have hso := a7s (dW s ids nm) [] List.Pairwise.nil
 have hgi := b6A s ids nm
 have hsum : bG (fun g => g.fIDs.length) ((dW s ids nm).foldl fO []) = ids.length := by
  rw [(a6i (dW s ids nm) []).1]
  simp [bG, dW]
 have c1 : FnC Tryz.prog 6 [bX s, .o (.d (.sl (ids.map eZ))), os nm] (.o (.d (.sl (((dW s ids nm).foldl fO []).map dO)))) := (Opq.implGroup_ok 20 a1Y s ids nm (by omega) (by omega) (by omega)).pu (by simp only [go_sem, and_self])
 have c2 : FnC Tryz.prog 11 [bX s, .o (.d (.sl (ids.map eZ))), os nm] (.o (.d (.sl (((dW s ids nm).foldl fO []).map dO)))) := (Opq.specGroup_ok s ids nm (by omega) (by omega)).pu (by simp only [go_sem, and_self])
 have c3 := xW ((dW s ids nm).foldl fO []) (by omega)
 generalize (dW s ids nm).foldl fO [] = G at *
 have hgw : fD G ≤ 5000 := by omega
 have hz1 : FnC Tryz.prog 19 [.o (.d (.sl (G.map dO)))] (.o (.d (.sl ((gsz G).map eZ)))) := (a0E G (by omega)).pu (by simp only [go_sem, and_self])
 have hz2 : FnC Tryz.prog 20 [.o (.d (.sl (G.map dO)))] (.o (.d (.sl ((gsz G).map eZ)))) := (a0D G (by omega)).pu (by simp only [go_sem, and_self])
 have hz3 := uG (gsz G) (by rw [zA]; omega)
 have hcmp := fun (j k : Nat) (h1 : j + 1 = k) (h2 : j < G.length) (h3 : k < G.length) => (show cmpV G[j].fValue G[k].fValue < 0 by
  rw [nK]
  exact List.pairwise_iff_getElem.1 hso j k h2 h3 (by omega))
 have hat := fun (i : Nat) (h1 : i < G.length) (m : Nat) (h2 : m < G[i].fIDs.length) => hgi G[i] (List.getElem_mem h1) _ (List.getElem_mem h2)
 refine iE c1 ?_
 refine a1z (b1C hl) rfl rfl ?_
 rintro ⟨H, v⟩ ⟨hH, hv⟩
 simp only at hH hv
 simp only [go_sem]
 refine aD ?_
 refine a1z (b1G hl) rfl rfl ?_
 rintro ⟨a, d, u, dir, attr⟩ ⟨hsA, hd, hdn, han⟩
 simp only at hsA hd hdn han
 simp only [go_sem]
 refine aD ?_
 refine a1z (b1D hl) rfl rfl ?_
 intro w hw
 simp only [go_sem]
 have haw := hsA.w
 have hdw := b0J hd (by decide)
 have i1 := a1e H v (by omega)
 have i2 := a1d H v (by omega)
 have i4 : (gIds v H).length ≤ 67108864 := by
  have h1 := a0s v H
  have h2 : bG tT H ≤ fD H := by unfold fD; omega
  omega
 have i3 := uG (gIds v H) i4
 have l1 : FnC Tryz.prog 15 [bX a, .o (.d (.sl (d.map bY))), oi u, os dir, os attr] (.o (.d (.sl ((grpL a d u dir attr).map dO)))) := (a6w a d u dir attr (by omega) (by omega)).pu (by simp only [go_sem, and_self])
 have l2 : FnC Tryz.prog 16 [bX a, .o (.d (.sl (d.map bY))), oi u, os dir, os attr] (.o (.d (.sl ((grpL a d u dir attr).map dO)))) := (a6x a d u dir attr (by omega) (by omega)).pu (by simp only [go_sem, and_self])
 have l3 := xW (grpL a d u dir attr) (b8l (vis a u) (a4g a d u dir) attr (by have := a8r a u; omega) (a6v a d u dir))
 have n1 := a0I w (by have := hw.w; omega) hw.n
 have n2 := a0J w (by have := hw.w; omega) hw.n
 generalize grpL a d u dir attr = L at *
 generalize gIds v H = I at *
 generalize fmtV w = T at *
 have qH := @decide_true; repeat' (with_reducible first | refine nY ?_ | (refine mX ?_; try simp only [go_sem, qH]) | refine kD ?_ | refine rT [48] [] ?_ | refine dB (aX ?_) (uX ?_) | refine dS (aX ?_) ?_ | (refine uA ?_; simp only [go_sem, qH]; (repeat' first | omega | refine And.intro ?_ ?_ | refine cP c2 ?_ | refine cP c3 ?_ | refine cP i1 ?_ | refine cP i2 ?_ | refine cP i3 ?_ | refine cP l1 ?_ | refine cP l2 ?_ | refine cP l3 ?_ | refine cP n1 ?_ | refine cP n2 ?_ | refine cP hz1 ?_ | refine cP hz2 ?_ | refine cP hz3 ?_ | (refine mX ?_; simp only [go_sem, qH] <;> fail)); done) | refine rD ?_ | refine cP c2 ?_ | refine cP c3 ?_ | refine cP i1 ?_ | refine cP i2 ?_ | refine cP i3 ?_ | refine cP l1 ?_ | refine cP l2 ?_ | refine cP l3 ?_ | refine cP n1 ?_ | refine cP n2 ?_ | refine cP hz1 ?_ | refine cP hz2 ?_ | refine cP hz3 ?_ | refine aO ?_ | fail)
 refine aY (α := Nat) (fun k => [(15, oi (bG (fun g => g.fIDs.length) (G.take k) : Nat)), (16, oi k)]) (fun _ => []) (fun k => k ≤ G.length) (fun k => G.length - k) 0 (fun _ => ?_) ?_ ?_ (fun k hk => ?_)
 ·simp only [go_sem]
 ·simp only [go_sem]; simp [bG]
 ·simp
 ·simp only [go_sem]
  refine aD ?_
  refine cnd rfl (fun hlt => ?_) (fun hlt => ?_)
  ·simp only [decide_eq_true_eq, Int.ofNat_lt] at hlt
   have e15 : ((bG (fun g => g.fIDs.length) (G.take k) : Nat) : Int) + (G[k].fIDs.length : Int) = ((bG (fun g => g.fIDs.length) (G.take (k + 1)) : Nat) : Int) := by
    rw [yN _ G k hlt]; omega
   have hq1 := a3d (fun g : TGroup => g.fIDs.length) G (k + 1)
   have hq2 := yN (fun g : TGroup => g.fIDs.length) G k hlt
   by_cases hk0 : k = 0
   ·have z0 : decide ((0 : Int) < (k : Int)) = false := by simp only [decide_eq_false_iff_not]; omega
    have qH := aI @z0 @hlt; repeat' (with_reducible first | refine nY ?_ | (refine mX ?_; try simp only [go_sem, qH]) | refine kD ?_ | (apply rE [14] [] [0,1,2,3,4,5,6,7,8,9,10,11,12,13] [0,1,2,3,4,5,6,7,8,9,10,11,12,13] ((.c 14 [15,16] [15,16] .n .n)) (by simp only [go_sem]; rfl) (by simp only [go_sem]; rfl) (by simp only [go_sem]; rfl) (by decide +kernel); (focus simp only [go_sem]; done)) | exact aT | refine aK (uX ?_) ?_ | refine aL (aX ?_) ?_ | refine aM (aX ?_) ?_ | exact bH | exact oH | exact uB | refine rD ?_ | refine aO ?_ | fail)
    refine aY (α := Nat) (fun m => [(17, oi m)]) (fun _ => []) (fun m => m ≤ G[k].fIDs.length) (fun m => G[k].fIDs.length - m) 0 (fun _ => ?_) ?_ ?_ (fun m hm => ?_)
    ·simp only [go_sem]
    ·simp only [go_sem]; simp
    ·simp
    ·simp only [go_sem]
     have q0 := @hlt; refine fF ?_
     refine cnd rfl (fun hlm => ?_) (fun hlm => ?_)
     ·simp only [decide_eq_true_eq, Int.ofNat_lt] at hlm
      have fo := a3e s G[k].fIDs[m] (by omega)
      have hw3 : bV (gU G[k].fIDs[m] s.fFiles) ≤ 4300000 := by
       have h1 := a0p G[k].fIDs[m] s.fFiles
       have h2 : fT s.fFiles ≤ aW s := by unfold aW; omega
       omega
      have ga := dC (gU G[k].fIDs[m] s.fFiles) nm hw3
      rw [hat k hlt m hlm] at ga
      have qH := aI @hlt (aI @hlm @decide_true); repeat' (with_reducible first | refine nY ?_ | (refine mX ?_; try simp only [go_sem, qH]) | refine kD ?_ | (apply rE [9,11] [] [0,1,2,3,4,5,6,7,8,10,12,13,14,15,16] [0,1,2,3,4,5,6,7,8,10,12,13,14,15,16] ((.c 9 [] [1,2,10,12,13,14,15,16] (.c 11 [17] [1,2,12,13,14,15,16,17] .n .n) .n)) (by simp only [go_sem]; rfl) (by simp only [go_sem]; rfl) (by simp only [go_sem]; rfl) (by decide +kernel); (focus simp only [go_sem]; done)) | exact aT | refine aK (uX ?_) ?_ | refine aL (aX ?_) ?_ | refine aM (aX ?_) ?_ | exact bH | exact oH | exact uB | refine rD ?_ | refine cP fo ?_ | refine cP ga ?_ | refine aO ?_ | fail)
      refine aF (m + 1) ?_ ?_ ?_
      ·simp only [go_sem]; simp
      ·exact hlm
      ·omega
     ·refine aD ?_
      refine aF (k + 1) ?_ ?_ ?_
      ·simp only [go_sem, e15]; simp
      ·exact hlt
      ·omega
   ·obtain ⟨j, hj⟩ : ∃ j, j + 1 = k := ⟨k - 1, by omega⟩
    have z0 : decide ((0 : Int) < (k : Int)) = true := by simp only [decide_eq_true_eq]; omega
    have hm1 : (k : Int) - 1 = (j : Int) := by omega
    have hjl : j < G.length := by omega
    have hc := hcmp j k hj hjl hlt
    have hc1 : decide (0 ≤ cmpV G[j].fValue G[k].fValue) = false := by simp only [decide_eq_false_iff_not]; omega
    have hc2 := wJ G[j].fValue G[k].fValue
    generalize cmpV G[j].fValue G[k].fValue = cm at *
    have qH := aI @z0 (aI @hm1 (aI @hlt (aI @hjl @hc1))); repeat' (with_reducible first | refine nY ?_ | (refine mX ?_; try simp only [go_sem, qH]) | refine kD ?_ | (apply rE [14] [] [0,1,2,3,4,5,6,7,8,9,10,11,12,13] [0,1,2,3,4,5,6,7,8,9,10,11,12,13] ((.c 14 [15,16] [15,16] .n .n)) (by simp only [go_sem]; rfl) (by simp only [go_sem]; rfl) (by simp only [go_sem]; rfl) (by decide +kernel); (focus simp only [go_sem]; done)) | exact aT | refine aK (uX ?_) ?_ | refine aL (aX ?_) ?_ | refine aM (aX ?_) ?_ | exact bH | exact oH | exact uB | refine rD ?_ | refine cP hc2 ?_ | refine aO ?_ | fail)
    refine aY (α := Nat) (fun m => [(17, oi m)]) (fun _ => []) (fun m => m ≤ G[k].fIDs.length) (fun m => G[k].fIDs.length - m) 0 (fun _ => ?_) ?_ ?_ (fun m hm => ?_)
    ·simp only [go_sem]
    ·simp only [go_sem]; simp
    ·simp
    ·simp only [go_sem]
     have q0 := @hlt; refine fF ?_
     refine cnd rfl (fun hlm => ?_) (fun hlm => ?_)
     ·simp only [decide_eq_true_eq, Int.ofNat_lt] at hlm
      have fo := a3e s G[k].fIDs[m] (by omega)
      have hw3 : bV (gU G[k].fIDs[m] s.fFiles) ≤ 4300000 := by
       have h1 := a0p G[k].fIDs[m] s.fFiles
       have h2 : fT s.fFiles ≤ aW s := by unfold aW; omega
       omega
      have ga := dC (gU G[k].fIDs[m] s.fFiles) nm hw3
      rw [hat k hlt m hlm] at ga
      have qH := aI @hlt (aI @hlm @decide_true); repeat' (with_reducible first | refine nY ?_ | (refine mX ?_; try simp only [go_sem, qH]) | refine kD ?_ | (apply rE [9,11] [] [0,1,2,3,4,5,6,7,8,10,12,13,14,15,16] [0,1,2,3,4,5,6,7,8,10,12,13,14,15,16] ((.c 9 [] [1,2,10,12,13,14,15,16] (.c 11 [17] [1,2,12,13,14,15,16,17] .n .n) .n)) (by simp only [go_sem]; rfl) (by simp only [go_sem]; rfl) (by simp only [go_sem]; rfl) (by decide +kernel); (focus simp only [go_sem]; done)) | exact aT | refine aK (uX ?_) ?_ | refine aL (aX ?_) ?_ | refine aM (aX ?_) ?_ | exact bH | exact oH | exact uB | refine rD ?_ | refine cP fo ?_ | refine cP ga ?_ | refine aO ?_ | fail)
      refine aF (m + 1) ?_ ?_ ?_
      ·simp only [go_sem]; simp
      ·exact hlm
      ·omega
     ·refine aD ?_
      refine aF (k + 1) ?_ ?_ ?_
      ·simp only [go_sem, e15]; simp
      ·exact hlt
      ·omega
  ·simp only [decide_eq_false_iff_not, Int.ofNat_lt] at hlt
   have hkl : k = G.length := by omega
   have e16 : decide (((bG (fun g => g.fIDs.length) (G.take k) : Nat) : Int) = (ids.length : Int)) = true := by
    rw [hkl, List.take_length, hsum]; simp
   have q0 := @e16; refine fF ?_
   exact aA ⟨⟨_, rfl, by simp only [go_sem, e16]⟩, trivial⟩
end Go.Proofs.YtakopfjdmmnjcaaGreatDoor
end
