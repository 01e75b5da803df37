/- Joined texts. -/
import Derived.Test.YtdjgfffnaakehaaGreatDoorZ14
set_option linter.all false
section
set_option maxRecDepth 100000
set_option maxHeartbeats 4000000
namespace Go.Proofs.YtdjgfffnaakehaaGreatDoor
open Go Go.Sx Go.RowKit Go.Proofs
def fF (s : ByteArray) : Nat → Int
 | 0 => 3
 | k + 1 => (fF s k * 33 + iG s k).tmod 65521
theorem uS (s : ByteArray) : ∀ k, 0 ≤ fF s k ∧ fF s k ≤ 65520
 | 0 => by simp [fF]
 | k + 1 => by
  have h1 := uS s k
  have h2 := mG s k
  rw [fF, Int.tmod_eq_emod_of_nonneg (by omega)]
  omega
theorem wW (s : ByteArray) (hs : s.size ≤ 140737488355328) : FnC Tryz.prog 21 [os s] (oi (fF s s.size)) := by
 refine ent Tryz.func21 rfl Tryz.call21 rfl (fun C => ?_); simp only [go_sem, st0, Tryz.ntmps21]
 refine aK ?_
 refine bC (α := Nat) (fun k => [(3, oi (fF s k)), (4, oi k)]) (fun _ => []) (fun k => k ≤ s.size) (fun k => s.size - k) 0 (fun _ => ?_) ?_ ?_ (fun k hk => ?_)
 ·simp only [go_sem]
 ·simp only [go_sem]; simp [fF]
 ·simp
 ·simp only [go_sem]
  refine aK ?_
  refine cnd rfl (fun h => ?_) (fun h => ?_)
  ·simp only [decide_eq_true_eq, Int.ofNat_lt] at h
   have h1 := uS s k
   have h2 := mG s k
   have q0 := @h; refine jT ?_
   refine aG (k + 1) ?_ ?_ ?_
   ·simp only [go_sem]; simp [fF]
   ·omega
   ·omega
  ·simp only [decide_eq_false_iff_not] at h
   have e : k = s.size := by omega
   subst e
   refine aK ?_
   exact aA ⟨⟨_, rfl, by simp only [go_sem]⟩, trivial⟩
theorem wX (s : ByteArray) (hs : s.size ≤ 140737488355328) : FnC Tryz.prog 27 [os s] (oi (fF s s.size)) := by
 refine ent Tryz.func27 rfl Tryz.call27 rfl (fun C => ?_); simp only [go_sem, st0, Tryz.ntmps27]
 refine aK ?_
 refine bC (α := Nat) (fun k => [(3, oi (fF s k)), (7, oi k)]) (fun _ => []) (fun k => k ≤ s.size) (fun k => s.size - k) 0 (fun _ => ?_) ?_ ?_ (fun k hk => ?_)
 ·simp only [go_sem]
 ·simp only [go_sem]; simp [fF]
 ·simp
 ·simp only [go_sem]
  refine aK ?_
  refine cnd rfl (fun h => ?_) (fun h => ?_)
  ·simp only [decide_eq_true_eq, Int.ofNat_lt] at h
   have h1 := uS s k
   have h2 := mG s k
   have q0 := @h; refine jT ?_
   refine aG (k + 1) ?_ ?_ ?_
   ·simp only [go_sem]; simp [fF, Int.mul_comm]
   ·omega
   ·omega
  ·simp only [decide_eq_false_iff_not] at h
   have e : k = s.size := by omega
   subst e
   refine aK ?_
   exact aA ⟨⟨_, rfl, by simp only [go_sem]⟩, trivial⟩
def catB (a : ByteArray) (l : List ByteArray) : ByteArray := l.foldl (fun s x => s ++ x ++ ⟨#[10]⟩) a
theorem a6k (a : ByteArray) (l : List ByteArray) (x : ByteArray) : catB a (l ++ [x]) = catB a l ++ x ++ ⟨#[10]⟩ := by simp [catB]
theorem vV (a : ByteArray) (l : List ByteArray) (k : Nat) (h : k < l.length) : catB a (l.take (k + 1)) = catB a (l.take k) ++ l[k] ++ ⟨#[10]⟩ := by
 rw [List.take_succ_eq_append_getElem h, a6k]
theorem vW (a : ByteArray) (l : List ByteArray) (c : Nat) (hc : ∀ x ∈ l, x.size ≤ c) : ∀ k, k ≤ l.length → (catB a (l.take k)).size ≤ a.size + k * (c + 1)
 | 0, _ => by simp [catB]
 | k + 1, h => by
  have ih := vW a l c hc k (by omega)
  have h1 := hc l[k] (List.getElem_mem (by omega))
  have e : (⟨#[10]⟩ : ByteArray).size = 1 := rfl
  rw [vV a l k (by omega)]
  simp only [ByteArray.size_append]
  rw [Nat.succ_mul]
  omega
theorem a1f (f : TFile) (hf : jV f) : ∀ k, k ≤ f.fAttrs.length → (fB (iB f ++ fA (f.fAttrs.take k)) sp).size ≤ 100 + 24 * (k + wsum wAttr (f.fAttrs.take k))
 | 0, _ => by
  have e : iB f ++ fA (f.fAttrs.take 0) = iB f := by simp [fA]
  rw [e, sG]
  have h1 := bX f.fID hf.1
  have h2 := bX f.fOwner hf.2.1
  have h3 := bX f.fLink hf.2.2.2.1
  have e1 : (⟨#[102, 105, 108, 101, 32]⟩ : ByteArray).size = 5 := rfl
  have e2 : (⟨#[32]⟩ : ByteArray).size = 1 := rfl
  have e3 : (if f.fShared then ⟨#[32, 115, 32]⟩ else ⟨#[32, 111, 32]⟩ : ByteArray).size = 3 := by cases f.fShared <;> rfl
  simp only [ByteArray.size_append]
  omega
 | k + 1, hk => by
  have ih := a1f f hf k (by omega)
  have hx : f.fAttrs[k] ∈ f.fAttrs := List.getElem_mem (by omega)
  have hv := kK f.fAttrs[k].fValue (hf.2.2.2.2.2 _ hx).2.2.1
  have e2 : sp.size = 1 := rfl
  have ew : wAttr f.fAttrs[k] = f.fAttrs[k].fName.size + f.fAttrs[k].fValue.fStr.size := rfl
  rw [jF wAttr f.fAttrs (by omega), lJ _ k (by omega), ← List.append_assoc, qG (uH _ _)]
  simp only [ByteArray.size_append]
  omega
theorem a6l (f : TFile) (hf : jV f) (hw : wFile f ≤ 1048576) : (jW f).size ≤ 26000000 := by
 have h := a1f f hf f.fAttrs.length (Nat.le_refl _)
 rw [List.take_length] at h
 unfold wFile dV at hw
 unfold jW
 omega
theorem uT (x : TSnapshot) (hx : SmX x) : ∀ l ∈ lnX x, l.size ≤ 26000000 := by
 intro l hl
 unfold lnX at hl
 split at hl
 ·simp only [lnC, lnB, lnA, List.mem_append, List.mem_map, List.mem_cons, List.not_mem_nil, or_false] at hl
  rcases hl with ((⟨f, hf, rfl⟩ | rfl) | ⟨f, hf, rfl⟩) | ⟨d, hd, rfl⟩
  ·obtain ⟨k, hk, rfl⟩ := List.getElem_of_mem hf
   have h1 := hx.field hk
   have h2 := a7j x.fStore.fSchema[k]
   omega
  ·have h1 := bX x.fStore.fNextID hx.wf.1.2.2
   have e1 : (⟨#[110, 101, 120, 116, 32]⟩ : ByteArray).size = 5 := rfl
   unfold nxT
   simp only [ByteArray.size_append]
   omega
  ·obtain ⟨k, hk, rfl⟩ := List.getElem_of_mem hf
   exact a6l _ (hx.file hk).2 (hx.file hk).1
  ·obtain ⟨k, hk, rfl⟩ := List.getElem_of_mem hd
   have h1 := hx.dir hk
   have h2 := zI x.fDirs[k].fQuery h1.2.2
   have z1 : (⟨#[100, 105, 114, 32]⟩ : ByteArray).size = 4 := rfl
   have z2 : (⟨#[32]⟩ : ByteArray).size = 1 := rfl
   unfold drT
   simp only [ByteArray.size_append]
   omega
 ·simp at hl
noncomputable def bdT (v : Int) (x : TSnapshot) : ByteArray := catB (itoaB v ++ ⟨#[10]⟩) (lnX x)
noncomputable def slT (v : Int) (x : TSnapshot) : ByteArray := if jY x && inB v 1 1000000000 then bdT v x ++ itoaB (fF (bdT v x) (bdT v x).size) ++ ⟨#[46]⟩ else ⟨#[]⟩
theorem uU (s : ByteArray) (k : Nat) : inR .i64 (fF s k) := by
 have := uS s k
 unfold inR; simp only; omega
theorem a3p (v : Int) (x : TSnapshot) (hx : SmX x) (hv : inR .i64 v) : FnC Tryz.prog 8 [oi v, dD x] (os (slT v x)) := by
 have c := wI x hx
 have len := a1J x hx
 have hsz := vW (itoaB v ++ ⟨#[10]⟩) (lnX x) 26000000 (uT x hx)
 have hls := uT x hx
 have cv := dF v hv
 have zv := bX v hv
 have e1 : (⟨#[10]⟩ : ByteArray).size = 1 := rfl
 have e2 : (⟨#[46]⟩ : ByteArray).size = 1 := rfl
 have eb : catB (itoaB v ++ ⟨#[10]⟩) (lnX x) = bdT v x := rfl
 have zb : (itoaB v ++ ⟨#[10]⟩).size ≤ 21 := by simp only [ByteArray.size_append]; omega
 have mv : (itoaB v).size + (⟨#[10]⟩ : ByteArray).size ≤ maxLen := by unfold maxLen; omega
 have hsb := hsz (lnX x).length (Nat.le_refl _)
 rw [List.take_length, eb] at hsb
 have hmul : (lnX x).length * (26000000 + 1) ≤ 1048577 * (26000000 + 1) := Nat.mul_le_mul_right _ len
 have hbd : (bdT v x).size ≤ 30000000000000 := by omega
 have ck := wX (bdT v x) (by omega)
 have ci := dF (fF (bdT v x) (bdT v x).size) (uU _ _)
 have zi := bX (fF (bdT v x) (bdT v x).size) (uU _ _)
 have m5 : (bdT v x).size + (itoaB (fF (bdT v x) (bdT v x).size)).size ≤ maxLen := by unfold maxLen; omega
 have m6 : (bdT v x ++ itoaB (fF (bdT v x) (bdT v x).size)).size + (⟨#[46]⟩ : ByteArray).size ≤ maxLen := by unfold maxLen; rw [ByteArray.size_append]; omega
 refine ent Tryz.func8 rfl Tryz.call8 rfl (fun C => ?_); simp only [go_sem, st0, Tryz.ntmps8]
 cases h0 : jY x
 ·have fin : slT v x = ⟨#[]⟩ := by unfold slT; rw [h0]; rfl
  have q0 := @h0; refine gG (jR x hx.sm) ?_
  exact aA ⟨⟨_, rfl, by simp only [go_sem, fin]⟩, trivial⟩
 cases h1 : inB v 1 1000000000
 ·have fin : slT v x = ⟨#[]⟩ := by unfold slT; rw [h0, h1]; rfl
  have q0 := @h0; have q1 := @h1; refine wR (jR x hx.sm) (aF v 1 1000000000) ?_
  exact aA ⟨⟨_, rfl, by simp only [go_sem, fin]⟩, trivial⟩
 have fin : slT v x = bdT v x ++ itoaB (fF (bdT v x) (bdT v x).size) ++ ⟨#[46]⟩ := by unfold slT; rw [h0, h1]; rfl
 generalize itoaB (fF (bdT v x) (bdT v x).size) = zz at *
 have q0 := @h0; have q1 := @h1; have q2 := @mv; have q3 := @pI; refine a8l (jR x hx.sm) (aF v 1 1000000000) cv c ?_
 generalize lnX x = nm at *
 refine bC (α := Nat) (fun k => [(5, os (catB (itoaB v ++ ⟨#[10]⟩) (nm.take k))), (22, oi k)]) (fun _ => []) (fun k => k ≤ nm.length) (fun k => nm.length - k) 0 (fun _ => ?_) ?_ ?_ (fun k hk => ?_)
 ·simp only [go_sem]
 ·simp only [go_sem]; simp [catB]
 ·simp
 simp only [go_sem]
 have q0 := @pI; refine jT ?_
 refine cnd rfl (fun h => ?_) (fun h => ?_)
 ·simp only [decide_eq_true_eq, Int.ofNat_lt] at h
  have hk1 := hsz k hk
  have hk2 := hls nm[k] (List.getElem_mem h)
  have hk3 : k * (26000000 + 1) ≤ 1048577 * (26000000 + 1) := Nat.mul_le_mul_right _ (by omega)
  have hn := vV (itoaB v ++ ⟨#[10]⟩) nm k h
  generalize catB (itoaB v ++ ⟨#[10]⟩) (nm.take k) = s at *
  have m1 : nm[k].size + (⟨#[10]⟩ : ByteArray).size ≤ maxLen := by unfold maxLen; omega
  have m2 : s.size + (nm[k] ++ ⟨#[10]⟩).size ≤ maxLen := by unfold maxLen; rw [ByteArray.size_append]; omega
  have ea : s ++ nm[k] ++ ⟨#[10]⟩ = s ++ (nm[k] ++ ⟨#[10]⟩) := ByteArray.append_assoc
  rw [ea] at hn
  have q0 := @h; have q1 := @m1; have q2 := @m2; have q3 := @pI; refine jE ?_
  refine aG (k + 1) ?_ ?_ ?_
  ·simp only [go_sem, hn]; try simp
  ·exact h
  ·omega
 simp only [decide_eq_false_iff_not] at h
 have e : k = nm.length := by omega
 subst e
 rw [List.take_length, eb]
 have q0 := @m5; have q1 := @m6; refine wR ck ci ?_
 exact aA ⟨⟨_, rfl, by simp only [go_sem, fin]⟩, trivial⟩
theorem a3q (v : Int) (x : TSnapshot) (hx : SmX x) (hv : inR .i64 v) : FnC Tryz.prog 6 [oi v, dD x] (os (slT v x)) := by
 have c := wJ x hx
 have len := a1J x hx
 have hsz := vW (itoaB v ++ ⟨#[10]⟩) (lnX x) 26000000 (uT x hx)
 have hls := uT x hx
 have cv := dG v hv
 have zv := bX v hv
 have e1 : (⟨#[10]⟩ : ByteArray).size = 1 := rfl
 have e2 : (⟨#[46]⟩ : ByteArray).size = 1 := rfl
 have eb : catB (itoaB v ++ ⟨#[10]⟩) (lnX x) = bdT v x := rfl
 have zb : (itoaB v ++ ⟨#[10]⟩).size ≤ 21 := by simp only [ByteArray.size_append]; omega
 have mv : (itoaB v).size + (⟨#[10]⟩ : ByteArray).size ≤ maxLen := by unfold maxLen; omega
 have hsb := hsz (lnX x).length (Nat.le_refl _)
 rw [List.take_length, eb] at hsb
 have hmul : (lnX x).length * (26000000 + 1) ≤ 1048577 * (26000000 + 1) := Nat.mul_le_mul_right _ len
 have hbd : (bdT v x).size ≤ 30000000000000 := by omega
 have ck := wW (bdT v x) (by omega)
 have ci := dG (fF (bdT v x) (bdT v x).size) (uU _ _)
 have zi := bX (fF (bdT v x) (bdT v x).size) (uU _ _)
 have m5 : (bdT v x).size + (itoaB (fF (bdT v x) (bdT v x).size)).size ≤ maxLen := by unfold maxLen; omega
 have m6 : (bdT v x ++ itoaB (fF (bdT v x) (bdT v x).size)).size + (⟨#[46]⟩ : ByteArray).size ≤ maxLen := by unfold maxLen; rw [ByteArray.size_append]; omega
 refine ent Tryz.func6 rfl Tryz.call6 rfl (fun C => ?_); simp only [go_sem, st0, Tryz.ntmps6]
 cases h0 : jY x
 ·have fin : slT v x = ⟨#[]⟩ := by unfold slT; rw [h0]; rfl
  have q0 := @h0; refine gG (jS x hx.sm) ?_
  exact aA ⟨⟨_, rfl, by simp only [go_sem, fin]⟩, trivial⟩
 cases h1 : inB v 1 1000000000
 ·have fin : slT v x = ⟨#[]⟩ := by unfold slT; rw [h0, h1]; rfl
  have q0 := @h0; have q1 := @h1; refine wR (jS x hx.sm) (aR v 1 1000000000) ?_
  exact aA ⟨⟨_, rfl, by simp only [go_sem, fin]⟩, trivial⟩
 have fin : slT v x = bdT v x ++ itoaB (fF (bdT v x) (bdT v x).size) ++ ⟨#[46]⟩ := by unfold slT; rw [h0, h1]; rfl
 generalize itoaB (fF (bdT v x) (bdT v x).size) = zz at *
 have q0 := @h0; have q1 := @h1; have q2 := @mv; have q3 := @pI; refine a8l (jS x hx.sm) (aR v 1 1000000000) cv c ?_
 generalize lnX x = nm at *
 refine bC (α := Nat) (fun k => [(5, os (catB (itoaB v ++ ⟨#[10]⟩) (nm.take k))), (7, oi k)]) (fun _ => []) (fun k => k ≤ nm.length) (fun k => nm.length - k) 0 (fun _ => ?_) ?_ ?_ (fun k hk => ?_)
 ·simp only [go_sem]
 ·simp only [go_sem]; simp [catB]
 ·simp
 simp only [go_sem]
 have q0 := @pI; refine jT ?_
 refine cnd rfl (fun h => ?_) (fun h => ?_)
 ·simp only [decide_eq_true_eq, Int.ofNat_lt] at h
  have hk1 := hsz k hk
  have hk2 := hls nm[k] (List.getElem_mem h)
  have hk3 : k * (26000000 + 1) ≤ 1048577 * (26000000 + 1) := Nat.mul_le_mul_right _ (by omega)
  have hn := vV (itoaB v ++ ⟨#[10]⟩) nm k h
  generalize catB (itoaB v ++ ⟨#[10]⟩) (nm.take k) = s at *
  have m1 : s.size + nm[k].size ≤ maxLen := by unfold maxLen; omega
  have m2 : (s ++ nm[k]).size + (⟨#[10]⟩ : ByteArray).size ≤ maxLen := by unfold maxLen; rw [ByteArray.size_append]; omega
  have q0 := @h; have q1 := @m1; have q2 := @m2; have q3 := @pI; refine jE ?_
  refine aG (k + 1) ?_ ?_ ?_
  ·simp only [go_sem, hn]; try simp
  ·exact h
  ·omega
 simp only [decide_eq_false_iff_not] at h
 have e : k = nm.length := by omega
 subst e
 rw [List.take_length, eb]
 have q0 := @m5; have q1 := @m6; refine wR ck ci ?_
 exact aA ⟨⟨_, rfl, by simp only [go_sem, fin]⟩, trivial⟩
theorem a4w (v : Int) (x : TSnapshot) (hv : inR .i64 v) (hf : iK x) : FnC Tryz.prog 3 [oi v, dD x] (ob true) := by
 refine ent Tryz.func3 rfl Tryz.call3 rfl (fun C => ?_); simp only [go_sem, st0, Tryz.ntmps3]
 have hz := qW x 1048576 (by omega) hf
 by_cases h : bK 1048576 (bD x) < 0
 ·have q0 := @h; refine gG hz ?_
  exact aA ⟨⟨_, rfl, by simp only [go_sem]⟩, trivial⟩
 have hs : bD x ≤ 1048576 := by have := a2F h; omega
 have hx : SmX x := ⟨hf, hs⟩
 have q0 := @h; refine b0O hz (jM x hs) (a3q v x hx hv) (a3p v x hx hv) (pJ x hs) (lU x (by omega)) ?_
 exact aA ⟨⟨_, rfl, by simp only [go_sem]⟩, trivial⟩
end Go.Proofs.YtdjgfffnaakehaaGreatDoor
end
