/- Joined texts. -/
import Derived.Test.YtgfngchfmohhbaaDoorZ09
import Derived.Test.YtgfngchfmohhbaaDoorZ06
import Derived.Lib.IndexAny
set_option linter.all false
section
set_option maxRecDepth 100000
set_option maxHeartbeats 4000000
namespace Go.Proofs.YtgfngchfmohhbaaDoor
open Go Go.Sx Go.RowKit Go.Proofs
def kQ (x : ByteArray) (k : Nat) : Bool := decide (dQ x k = 46)
def qG (x : ByteArray) : Bool := (List.range x.size).any (kQ x)
theorem uC (x : ByteArray) (k : Nat) (h : k < x.data.toList.length) : kQ x k = (x.data.toList[k] == 46) := by
 have e : dQ x k = (x.data.toList[k].toNat : Int) := by unfold dQ; rw [List.getD_eq_getElem?_getD, List.getElem?_eq_getElem h]; rfl
 unfold kQ
 rw [e]
 rw [Bool.eq_iff_iff]
 simp only [decide_eq_true_eq, beq_iff_eq]
 constructor
 ·intro h1
  apply UInt8.toNat.inj
  have : (46 : UInt8).toNat = 46 := rfl
  omega
 ·intro h1
  rw [h1]; rfl
theorem a3E (x : ByteArray) : qG x = decide (0 ≤ Lib.indexByte x.data.toList 46) := by
 rw [← Lib.contains_iff_indexByte, Bool.eq_iff_iff]
 unfold qG
 rw [List.any_eq_true, List.contains_iff_exists_mem_beq]
 have hs : x.size = x.data.toList.length := rfl
 constructor
 ·rintro ⟨k, hk, h⟩
  have hk' : k < x.data.toList.length := by rw [← hs]; exact List.mem_range.1 hk
  rw [uC x k hk'] at h
  exact ⟨_, List.getElem_mem hk', by rw [beq_iff_eq] at h ⊢; exact h.symm⟩
 ·rintro ⟨b, hb, h⟩
  obtain ⟨k, hk, rfl⟩ := List.getElem_of_mem hb
  refine ⟨k, List.mem_range.2 (by rw [hs]; exact hk), ?_⟩
  rw [uC x k hk]
  rw [beq_iff_eq] at h ⊢
  exact h.symm
def kR (nm : List ByteArray) (ids : List Int) (k : Nat) : List Int := ((List.range k).filter fun i => qG (nm.getD i ⟨#[]⟩)).map fun i => ids.getD i 0
theorem uE (nm : List ByteArray) (ids : List Int) (k : Nat) : (kR nm ids k).length ≤ k := by
 unfold kR
 rw [List.length_map]
 have := List.length_filter_le (fun i => qG (nm.getD i ⟨#[]⟩)) (List.range k)
 simpa using this
theorem wH (nm : List ByteArray) (ids : List Int) (k : Nat) (h : k < nm.length) (h' : k < ids.length) : kR nm ids (k + 1) = if qG nm[k] then kR nm ids k ++ [ids[k]] else kR nm ids k := by
 unfold kR
 rw [List.range_succ, List.filter_append, List.map_append]
 have e1 : nm.getD k ⟨#[]⟩ = nm[k] := by simp [List.getD, h]
 have e2 : ids.getD k 0 = ids[k] := by simp [List.getD, h']
 cases hd : qG nm[k]
 ·simp only [Bool.false_eq_true, if_false]
  have : List.filter (fun i => qG (nm.getD i ⟨#[]⟩)) [k] = [] := by rw [List.filter_cons, e1, hd]; rfl
  rw [this]; simp
 ·simp only [if_true]
  have : List.filter (fun i => qG (nm.getD i ⟨#[]⟩)) [k] = [k] := by rw [List.filter_cons, e1, hd]; rfl
  rw [this, List.map_cons, List.map_nil, e2]
theorem a2N (s : TStore) (ids : List Int) (hs : aJ s ≤ 1048576) (hi : bO ids) (n : Nat) (hn : n ≤ ids.length) : ∀ (i : Nat) (h : i < (enN s ids n).length), (enN s ids n)[i].size ≤ 1048700 := by
 intro i h
 have h1 : i < n := by rw [fH] at h; exact h
 rw [a4E s ids n i h1 h]
 have e : ids.getD i 0 = ids[i] := by simp [List.getD, show i < ids.length by omega]
 rw [e]
 have hbs := xM s ids[i] hs
 have hiz := tL ids[i] (zH hi (by omega))
 have e1 : (⟨#[46]⟩ : ByteArray).size = 1 := rfl
 unfold nmK
 split
 ·simp only [ByteArray.size_append]; omega
 ·omega
def disL (s : TStore) (ids : List Int) : List Int := kR (enN s ids ids.length) ids ids.length
theorem a4F (x : ByteArray) : FnC Tryd.prog 60 [os x, os ⟨#[46]⟩] (ob (qG x)) := by
 rw [a3E]
 exact yZ x 46
theorem uF (s : TStore) (ids : List Int) (hs : aJ s ≤ 1048576) (hi : bO ids) (hl : ids.length ≤ 1048576) : FnC Tryd.prog 35 [bH s, .o (.d (.sl (ids.map bN)))] (.o (.w 3 1 ((disL s ids).map bN))) := by
 have c := dB s ids hs hi hl
 have len := fH s ids ids.length
 have fin : kR (enN s ids ids.length) ids ids.length = disL s ids := rfl
 generalize enN s ids ids.length = nm at *
 refine ent Tryd.func35 rfl Tryd.call35 rfl (fun C => ?_); simp only [go_sem, st0, Tryd.ntmps35]
 have q0 := @bU; refine jK c ?_
 refine bB (α := Nat) (fun k => [(5, .o (.s 1)), (8, .o .u), (13, oi k)]) (fun k => [(1, .row 3 1 ((kR nm ids k).map bN) true)]) (fun k => k ≤ nm.length) (fun k => nm.length - k) 0 (fun _ => ?_) ?_ ?_ (fun k hk => ?_)
 ·simp only [go_sem]
 ·simp only [go_sem]; simp [kR]
 ·simp
 ·simp only [go_sem]
  refine aH ?_
  refine cnd rfl (fun h => ?_) (fun h => ?_)
  ·simp only [decide_eq_true_eq, Int.ofNat_lt] at h
   have h' : k < ids.length := by omega
   have hn := wH nm ids k h h'
   have hdl := uE nm ids k
   have g1 : (kR nm ids k).length + 1 ≤ 140737488355328 := by omega
   have g2 : ((kR nm ids k).length + 1) * 8 ≤ 140737488355328 := by omega
   have cd := a4F nm[k]
   cases hd : qG nm[k]
   ·rw [hd] at hn cd
    simp only [Bool.false_eq_true, if_false] at hn
    have q0 := @h; have q1 := @h'; have q2 := @g1; have q3 := @g2; have q4 := @bU; refine a1x cd ?_
    refine aM (k + 1) ?_ ?_ ?_
    ·simp only [go_sem, hn]; try simp
    ·exact h
    ·omega
   ·rw [hd] at hn cd
    simp only [if_true] at hn
    have q0 := @h; have q1 := @h'; have q2 := @g1; have q3 := @g2; have q4 := @bU; refine a1x cd ?_
    refine aM (k + 1) ?_ ?_ ?_
    ·simp only [go_sem, hn, List.map_append]; simp [bN]
    ·exact h
    ·omega
  ·simp only [decide_eq_false_iff_not] at h
   have e : k = ids.length := by omega
   subst e
   refine aH ?_
   exact aA ⟨⟨_, rfl, by simp only [go_sem, fin]⟩, trivial⟩
theorem uG (s : TStore) (ids : List Int) (hs : aJ s ≤ 1048576) (hi : bO ids) (hl : ids.length ≤ 1048576) : FnC Tryd.prog 34 [bH s, .o (.d (.sl (ids.map bN)))] (.o (.w 3 1 ((disL s ids).map bN))) := by
 have c := dC s ids hs hi hl
 have len := fH s ids ids.length
 have fin : kR (enN s ids ids.length) ids ids.length = disL s ids := rfl
 have hsz := a2N s ids hs hi ids.length (Nat.le_refl _)
 generalize enN s ids ids.length = nm at *
 refine ent Tryd.func34 rfl Tryd.call34 rfl (fun C => ?_); simp only [go_sem, st0, Tryd.ntmps34]
 have q0 := @bU; refine jK c ?_
 refine bB (α := Nat) (fun k => [(5, .o (.s 1)), (10, .o .u), (7, oi k)]) (fun k => [(1, .row 3 1 ((kR nm ids k).map bN) true)]) (fun k => k ≤ nm.length) (fun k => nm.length - k) 0 (fun _ => ?_) ?_ ?_ (fun i hi' => ?_)
 ·simp only [go_sem]
 ·simp only [go_sem]; simp [kR]
 ·simp
 ·simp only [go_sem]
  have q0 := @bU; refine gD ?_
  refine cnd rfl (fun h => ?_) (fun h => ?_)
  ·simp only [decide_eq_true_eq, Int.ofNat_lt] at h
   have h' : i < ids.length := by omega
   have hn := wH nm ids i h h'
   have hdl := uE nm ids i
   have hsi := hsz i h
   have g1 : (kR nm ids i).length + 1 ≤ 140737488355328 := by omega
   have g2 : ((kR nm ids i).length + 1) * 8 ≤ 140737488355328 := by omega
   have q0 := @h; have q1 := @bU; refine lC ?_
   refine bB (α := Nat) (fun k => [(8, ob ((List.range k).any (kQ nm[i]))), (9, oi k)]) (fun _ => []) (fun k => k ≤ nm[i].size) (fun k => nm[i].size - k) 0 (fun _ => ?_) ?_ ?_ (fun k hk => ?_)
   ·simp only [go_sem]
   ·simp only [go_sem]; try simp
   ·simp
   ·simp only [go_sem]
    have q0 := @h; have q1 := @bU; refine lC ?_
    refine cnd rfl (fun h2 => ?_) (fun h2 => ?_)
    ·simp only [decide_eq_true_eq, Int.ofNat_lt] at h2
     have hnx : (List.range (k + 1)).any (kQ nm[i]) = ((List.range k).any (kQ nm[i]) || decide (dQ nm[i] k = 46)) := by
      rw [List.range_succ, List.any_append]; simp [kQ]
     cases ha : (List.range k).any (kQ nm[i])
     ·rw [ha, Bool.false_or] at hnx
      have q0 := @h; have q1 := @h2; have q2 := @ha; have q3 := @bU; refine oD ?_
      refine aM (k + 1) ?_ ?_ ?_
      ·simp only [go_sem, hnx]; try simp [ha, kQ]
      ·omega
      ·omega
     ·rw [ha, Bool.true_or] at hnx
      have q0 := @h; have q1 := @h2; have q2 := @ha; have q3 := @bU; refine oD ?_
      refine aM (k + 1) ?_ ?_ ?_
      ·simp only [go_sem, hnx]; try simp [ha, kQ]
      ·omega
      ·omega
    ·simp only [decide_eq_false_iff_not] at h2
     have e : k = nm[i].size := by omega
     subst e
     have hdd : (List.range nm[i].size).any (kQ nm[i]) = qG nm[i] := rfl
     cases hd : qG nm[i]
     ·rw [hd] at hn hdd
      simp only [Bool.false_eq_true, if_false] at hn
      have q0 := @h; have q1 := @h'; have q2 := @hdd; have q3 := @g1; have q4 := @g2; have q5 := @bU; refine a5g ?_
      refine aM (i + 1) ?_ ?_ ?_
      ·simp only [go_sem, hn]; try simp
      ·exact h
      ·omega
     ·rw [hd] at hn hdd
      simp only [if_true] at hn
      have q0 := @h; have q1 := @h'; have q2 := @hdd; have q3 := @g1; have q4 := @g2; have q5 := @bU; refine a5g ?_
      refine aM (i + 1) ?_ ?_ ?_
      ·simp only [go_sem, hn, List.map_append]; simp [bN]
      ·exact h
      ·omega
  ·simp only [decide_eq_false_iff_not] at h
   have e : i = ids.length := by omega
   subst e
   refine aH ?_
   exact aA ⟨⟨_, rfl, by simp only [go_sem, fin]⟩, trivial⟩
theorem zN (s : TStore) (ids : List Int) (hs : aJ s ≤ 1048576) (hi : bO ids) (hl : ids.length ≤ 1048576) : FnC Tryd.prog 35 [bH s, .o (.d (.sl (ids.map bN)))] (.o (.d (.sl ((disL s ids).map bN)))) := (uF s ids hs hi hl).pu (by simp only [go_sem, and_self])
theorem zO (s : TStore) (ids : List Int) (hs : aJ s ≤ 1048576) (hi : bO ids) (hl : ids.length ≤ 1048576) : FnC Tryd.prog 34 [bH s, .o (.d (.sl (ids.map bN)))] (.o (.d (.sl ((disL s ids).map bN)))) := (uG s ids hs hi hl).pu (by simp only [go_sem, and_self])
theorem a1K (s : TStore) (ids : List Int) (hf : fG s) (hi : bO ids) : FnC Tryd.prog 8 [bH s, .o (.d (.sl (ids.map bN)))] (ob true) := by
 refine ent Tryd.func8 rfl Tryd.call8 rfl (fun C => ?_); simp only [go_sem, st0, Tryd.ntmps8]
 by_cases g : (1048576 : Int) < (ids.length : Int)
 ·have g' : decide ((1048576 : Int) < (ids.length : Int)) = true := by simp [g]
  have q0 := @g'; have q1 := @bU; refine lC ?_
  exact aA ⟨⟨_, rfl, by simp only [go_sem]⟩, trivial⟩
 have g' : decide ((1048576 : Int) < (ids.length : Int)) = false := by simp [g]
 have hl : ids.length ≤ 1048576 := by omega
 have hz := jN s 1048576 (by omega) hf
 by_cases h : bF 1048576 (aJ s) < 0
 ·have q0 := @g'; have q1 := @h; have q2 := @bU; refine qC hz ?_
  exact aA ⟨⟨_, rfl, by simp only [go_sem]⟩, trivial⟩
 have hs : aJ s ≤ 1048576 := by have := kH h; omega
 have hs' := hs
 unfold aJ bL bP at hs'
 have len : (disL s ids).length ≤ ids.length := uE _ _ _
 have hc1 := wG s.fSchema
 have hc2 := zM s.fFiles
 have hc3 := xS ids
 have hr := xS (disL s ids)
 have e1 := uG s ids hs hi hl
 have e2 := uF s ids hs hi hl
 have e3 := zO s ids hs hi hl
 have e4 := zN s ids hs hi hl
 generalize disL s ids = nm at *
 have hk1 : ¬ ((1 : Int) + (csum cnField s.fSchema : Nat) + (csum cnFile s.fFiles : Nat) + (csum cnInt ids : Nat) < 0) := by omega
 have hk2 : ¬ ((1 : Int) + (csum cnInt nm : Nat) < 0) := by omega
 have qH := aI @g' (aI @h (aI @hk1 (aI @hk2 @bU))); repeat' (with_reducible first | refine nY ?_ | (refine mX ?_; try simp only [go_sem, qH]) | refine kD ?_ | refine rD ?_ | refine cP hz ?_ | refine vO (dW s hs) ?_ | refine vQ (dW s hs) ?_ | refine vO (eZ ids hl) ?_ | refine vQ (eZ ids hl) ?_ | refine vO e1 ?_ | refine vQ e1 ?_ | refine vO e2 ?_ | refine vQ e2 ?_ | refine vO (eD nm (by omega)) ?_ | refine vQ (eD nm (by omega)) ?_ | refine vO (fB s (by omega)) ?_ | refine vQ (fB s (by omega)) ?_ | refine vO (eD ids (by omega)) ?_ | refine vQ (eD ids (by omega)) ?_ | refine vM (nS s _ (by omega)) ?_ | refine vM (kN ids _ (by omega)) ?_ | refine vM (kN nm _ (by omega)) ?_ | refine vO (pV nm 1 (by omega)) ?_ | refine vQ (pV nm 1 (by omega)) ?_ | refine cP (gY s hs) ?_ | refine cP (jL ids hl) ?_ | refine cP e3 ?_ | refine cP e4 ?_ | refine aO ?_ | fail)
 exact aA ⟨⟨_, rfl, by simp only [go_sem]⟩, trivial⟩
end Go.Proofs.YtgfngchfmohhbaaDoor
end
