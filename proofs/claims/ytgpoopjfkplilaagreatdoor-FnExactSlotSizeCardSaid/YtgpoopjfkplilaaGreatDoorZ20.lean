/- Joined texts. -/
import Derived.Test.YtgpoopjfkplilaaGreatDoorZ15
import Derived.Test.YtgpoopjfkplilaaGreatDoorZ19
set_option linter.all false
section
set_option maxRecDepth 100000
set_option maxHeartbeats 4000000
namespace Go.Proofs.YtgpoopjfkplilaaGreatDoor
open Go Go.Sx Go.RowKit Go.Proofs
def iF (s : ByteArray) : Nat → Int
 | 0 => 3
 | k + 1 => (iF s k * 33 + dA s k).tmod 65521
theorem a0i (s : ByteArray) : ∀ k, 0 ≤ iF s k ∧ iF s k ≤ 65520
 | 0 => by simp [iF]
 | k + 1 => by
  have h1 := a0i s k
  have h2 := kK s k
  rw [iF, Int.tmod_eq_emod_of_nonneg (by omega)]
  omega
theorem a1t (s : ByteArray) (hs : s.size ≤ 140737488355328) : FnC Tryz.prog 79 [os s] (oi (iF s s.size)) := by
 refine ent Tryz.func79 rfl Tryz.call79 rfl (fun C => ?_); simp only [go_sem, st0, Tryz.ntmps79]
 refine aH ?_
 refine bD (α := Nat) (fun k => [(3, oi (iF s k)), (4, oi k)]) (fun _ => []) (fun k => k ≤ s.size) (fun k => s.size - k) 0 (fun _ => ?_) ?_ ?_ (fun k hk => ?_)
 ·simp only [go_sem]
 ·simp only [go_sem]; simp [iF]
 ·simp
 ·simp only [go_sem]
  refine aH ?_
  refine cnd rfl (fun h => ?_) (fun h => ?_)
  ·simp only [decide_eq_true_eq, Int.ofNat_lt] at h
   have h1 := a0i s k
   have h2 := kK s k
   have q0 := @h; refine iG ?_
   refine aD (k + 1) ?_ ?_ ?_
   ·simp only [go_sem]; simp [iF]
   ·omega
   ·omega
  ·simp only [decide_eq_false_iff_not] at h
   have e : k = s.size := by omega
   subst e
   refine aH ?_
   exact aA ⟨⟨_, rfl, by simp only [go_sem]⟩, trivial⟩
theorem a1u (s : ByteArray) (hs : s.size ≤ 140737488355328) : FnC Tryz.prog 112 [os s] (oi (iF s s.size)) := by
 refine ent Tryz.func112 rfl Tryz.call112 rfl (fun C => ?_); simp only [go_sem, st0, Tryz.ntmps112]
 refine aH ?_
 refine bD (α := Nat) (fun k => [(3, oi (iF s k)), (7, oi k)]) (fun _ => []) (fun k => k ≤ s.size) (fun k => s.size - k) 0 (fun _ => ?_) ?_ ?_ (fun k hk => ?_)
 ·simp only [go_sem]
 ·simp only [go_sem]; simp [iF]
 ·simp
 ·simp only [go_sem]
  refine aH ?_
  refine cnd rfl (fun h => ?_) (fun h => ?_)
  ·simp only [decide_eq_true_eq, Int.ofNat_lt] at h
   have h1 := a0i s k
   have h2 := kK s k
   have q0 := @h; refine iG ?_
   refine aD (k + 1) ?_ ?_ ?_
   ·simp only [go_sem]; simp [iF, Int.mul_comm]
   ·omega
   ·omega
  ·simp only [decide_eq_false_iff_not] at h
   have e : k = s.size := by omega
   subst e
   refine aH ?_
   exact aA ⟨⟨_, rfl, by simp only [go_sem]⟩, trivial⟩
def catB (a : ByteArray) (l : List ByteArray) : ByteArray := l.foldl (fun s x => s ++ x ++ ⟨#[10]⟩) a
theorem b2l (a : ByteArray) (l : List ByteArray) (x : ByteArray) : catB a (l ++ [x]) = catB a l ++ x ++ ⟨#[10]⟩ := by simp [catB]
theorem a0Q (a : ByteArray) (l : List ByteArray) (k : Nat) (h : k < l.length) : catB a (l.take (k + 1)) = catB a (l.take k) ++ l[k] ++ ⟨#[10]⟩ := by
 rw [List.take_succ_eq_append_getElem h, b2l]
theorem a0R (a : ByteArray) (l : List ByteArray) (c : Nat) (hc : ∀ x ∈ l, x.size ≤ c) : ∀ k, k ≤ l.length → (catB a (l.take k)).size ≤ a.size + k * (c + 1)
 | 0, _ => by simp [catB]
 | k + 1, h => by
  have ih := a0R a l c hc k (by omega)
  have h1 := hc l[k] (List.getElem_mem (by omega))
  have e : (⟨#[10]⟩ : ByteArray).size = 1 := rfl
  rw [a0Q a l k (by omega)]
  simp only [ByteArray.size_append]
  rw [Nat.succ_mul]
  omega
theorem a5g (f : TFile) (hf : mP f) : ∀ k, k ≤ f.fAttrs.length → (gY (jV f ++ eB (f.fAttrs.take k)) sp).size ≤ 100 + 24 * (k + wsum wAttr (f.fAttrs.take k))
 | 0, _ => by
  have e : jV f ++ eB (f.fAttrs.take 0) = jV f := by simp [eB]
  rw [e, xA]
  have h1 := dM f.fID hf.1
  have h2 := dM f.fOwner hf.2.1
  have h3 := dM f.fLink hf.2.2.2.1
  have e1 : (⟨#[102, 105, 108, 101, 32]⟩ : ByteArray).size = 5 := rfl
  have e2 : (⟨#[32]⟩ : ByteArray).size = 1 := rfl
  have e3 : (if f.fShared then ⟨#[32, 115, 32]⟩ else ⟨#[32, 111, 32]⟩ : ByteArray).size = 3 := by cases f.fShared <;> rfl
  simp only [ByteArray.size_append]
  omega
 | k + 1, hk => by
  have ih := a5g f hf k (by omega)
  have hx : f.fAttrs[k] ∈ f.fAttrs := List.getElem_mem (by omega)
  have hv := nG f.fAttrs[k].fValue (hf.2.2.2.2.2 _ hx).2.2.1
  have e2 : sp.size = 1 := rfl
  have ew : wAttr f.fAttrs[k] = f.fAttrs[k].fName.size + f.fAttrs[k].fValue.fStr.size := rfl
  rw [lU wAttr f.fAttrs (by omega), oW _ k (by omega), ← List.append_assoc, vG (yG _ _)]
  simp only [ByteArray.size_append]
  omega
theorem b2m (f : TFile) (hf : mP f) (hw : wFile f ≤ 1048576) : (jW f).size ≤ 26000000 := by
 have h := a5g f hf f.fAttrs.length (Nat.le_refl _)
 rw [List.take_length] at h
 unfold wFile eF at hw
 unfold jW
 omega
theorem a0j (x : TSnapshot) (hx : SmX x) : ∀ l ∈ lnX x, l.size ≤ 26000000 := by
 intro l hl
 unfold lnX at hl
 split at hl
 ·simp only [lnC, lnB, lnA, List.mem_append, List.mem_map, List.mem_cons, List.not_mem_nil, or_false] at hl
  rcases hl with ((⟨f, hf, rfl⟩ | rfl) | ⟨f, hf, rfl⟩) | ⟨d, hd, rfl⟩
  ·obtain ⟨k, hk, rfl⟩ := List.getElem_of_mem hf
   have h1 := hx.field hk
   have h2 := b2v x.fStore.fSchema[k]
   omega
  ·have h1 := dM x.fStore.fNextID hx.wf.1.2.2
   have e1 : (⟨#[110, 101, 120, 116, 32]⟩ : ByteArray).size = 5 := rfl
   unfold nxT
   simp only [ByteArray.size_append]
   omega
  ·obtain ⟨k, hk, rfl⟩ := List.getElem_of_mem hf
   exact b2m _ (hx.file hk).2 (hx.file hk).1
  ·obtain ⟨k, hk, rfl⟩ := List.getElem_of_mem hd
   have h1 := hx.dir hk
   have h2 := a2f x.fDirs[k].fQuery h1.2.2
   have z1 : (⟨#[100, 105, 114, 32]⟩ : ByteArray).size = 4 := rfl
   have z2 : (⟨#[32]⟩ : ByteArray).size = 1 := rfl
   unfold drT
   simp only [ByteArray.size_append]
   omega
 ·simp at hl
noncomputable def bdT (v : Int) (x : TSnapshot) : ByteArray := catB (itoaB v ++ ⟨#[10]⟩) (lnX x)
noncomputable def slT (v : Int) (x : TSnapshot) : ByteArray := if eY x && inB v 1 1000000000 then bdT v x ++ itoaB (iF (bdT v x) (bdT v x).size) ++ ⟨#[46]⟩ else ⟨#[]⟩
theorem a0k (s : ByteArray) (k : Nat) : inR .i64 (iF s k) := by
 have := a0i s k
 unfold inR; simp only; omega
theorem a1n (v : Int) (x : TSnapshot) (hx : SmX x) (hv : inR .i64 v) : FnC Tryz.prog 64 [oi v, dZ x] (os (slT v x)) := by
 have c := a6I x hx
 have len := a9W x hx
 have hsz := a0R (itoaB v ++ ⟨#[10]⟩) (lnX x) 26000000 (a0j x hx)
 have hls := a0j x hx
 have cv := eO v hv
 have zv := dM v hv
 have e1 : (⟨#[10]⟩ : ByteArray).size = 1 := rfl
 have e2 : (⟨#[46]⟩ : ByteArray).size = 1 := rfl
 have eb : catB (itoaB v ++ ⟨#[10]⟩) (lnX x) = bdT v x := rfl
 have zb : (itoaB v ++ ⟨#[10]⟩).size ≤ 21 := by simp only [ByteArray.size_append]; omega
 have mv : (itoaB v).size + (⟨#[10]⟩ : ByteArray).size ≤ maxLen := by unfold maxLen; omega
 have hsb := hsz (lnX x).length (Nat.le_refl _)
 rw [List.take_length, eb] at hsb
 have hmul : (lnX x).length * (26000000 + 1) ≤ 1048577 * (26000000 + 1) := Nat.mul_le_mul_right _ len
 have hbd : (bdT v x).size ≤ 30000000000000 := by omega
 have ck := a1u (bdT v x) (by omega)
 have ci := eO (iF (bdT v x) (bdT v x).size) (a0k _ _)
 have zi := dM (iF (bdT v x) (bdT v x).size) (a0k _ _)
 have m5 : (bdT v x).size + (itoaB (iF (bdT v x) (bdT v x).size)).size ≤ maxLen := by unfold maxLen; omega
 have m6 : (bdT v x ++ itoaB (iF (bdT v x) (bdT v x).size)).size + (⟨#[46]⟩ : ByteArray).size ≤ maxLen := by unfold maxLen; rw [ByteArray.size_append]; omega
 refine ent Tryz.func64 rfl Tryz.call64 rfl (fun C => ?_); simp only [go_sem, st0, Tryz.ntmps64]
 cases h0 : eY x
 ·have fin : slT v x = ⟨#[]⟩ := by unfold slT; rw [h0]; rfl
  have q0 := @h0; refine iX (kN x hx.sm) ?_
  exact aA ⟨⟨_, rfl, by simp only [go_sem, fin]⟩, trivial⟩
 cases h1 : inB v 1 1000000000
 ·have fin : slT v x = ⟨#[]⟩ := by unfold slT; rw [h0, h1]; rfl
  have q0 := @h0; have q1 := @h1; refine uS (kN x hx.sm) (aF v 1 1000000000) ?_
  exact aA ⟨⟨_, rfl, by simp only [go_sem, fin]⟩, trivial⟩
 have fin : slT v x = bdT v x ++ itoaB (iF (bdT v x) (bdT v x).size) ++ ⟨#[46]⟩ := by unfold slT; rw [h0, h1]; rfl
 generalize itoaB (iF (bdT v x) (bdT v x).size) = zz at *
 have q0 := @h0; have q1 := @h1; have q2 := @mv; have q3 := @bH; refine a8Y (kN x hx.sm) (aF v 1 1000000000) cv c ?_
 generalize lnX x = nm at *
 refine bD (α := Nat) (fun k => [(5, os (catB (itoaB v ++ ⟨#[10]⟩) (nm.take k))), (22, oi k)]) (fun _ => []) (fun k => k ≤ nm.length) (fun k => nm.length - k) 0 (fun _ => ?_) ?_ ?_ (fun k hk => ?_)
 ·simp only [go_sem]
 ·simp only [go_sem]; simp [catB]
 ·simp
 simp only [go_sem]
 have q0 := @bH; refine iG ?_
 refine cnd rfl (fun h => ?_) (fun h => ?_)
 ·simp only [decide_eq_true_eq, Int.ofNat_lt] at h
  have hk1 := hsz k hk
  have hk2 := hls nm[k] (List.getElem_mem h)
  have hk3 : k * (26000000 + 1) ≤ 1048577 * (26000000 + 1) := Nat.mul_le_mul_right _ (by omega)
  have hn := a0Q (itoaB v ++ ⟨#[10]⟩) nm k h
  generalize catB (itoaB v ++ ⟨#[10]⟩) (nm.take k) = s at *
  have m1 : nm[k].size + (⟨#[10]⟩ : ByteArray).size ≤ maxLen := by unfold maxLen; omega
  have m2 : s.size + (nm[k] ++ ⟨#[10]⟩).size ≤ maxLen := by unfold maxLen; rw [ByteArray.size_append]; omega
  have ea : s ++ nm[k] ++ ⟨#[10]⟩ = s ++ (nm[k] ++ ⟨#[10]⟩) := ByteArray.append_assoc
  rw [ea] at hn
  have q0 := @h; have q1 := @m1; have q2 := @m2; have q3 := @bH; refine iW ?_
  refine aD (k + 1) ?_ ?_ ?_
  ·simp only [go_sem, hn]; try simp
  ·exact h
  ·omega
 simp only [decide_eq_false_iff_not] at h
 have e : k = nm.length := by omega
 subst e
 rw [List.take_length, eb]
 have q0 := @m5; have q1 := @m6; refine uS ck ci ?_
 exact aA ⟨⟨_, rfl, by simp only [go_sem, fin]⟩, trivial⟩
theorem a1o (v : Int) (x : TSnapshot) (hx : SmX x) (hv : inR .i64 v) : FnC Tryz.prog 41 [oi v, dZ x] (os (slT v x)) := by
 have c := a6J x hx
 have len := a9W x hx
 have hsz := a0R (itoaB v ++ ⟨#[10]⟩) (lnX x) 26000000 (a0j x hx)
 have hls := a0j x hx
 have cv := eP v hv
 have zv := dM v hv
 have e1 : (⟨#[10]⟩ : ByteArray).size = 1 := rfl
 have e2 : (⟨#[46]⟩ : ByteArray).size = 1 := rfl
 have eb : catB (itoaB v ++ ⟨#[10]⟩) (lnX x) = bdT v x := rfl
 have zb : (itoaB v ++ ⟨#[10]⟩).size ≤ 21 := by simp only [ByteArray.size_append]; omega
 have mv : (itoaB v).size + (⟨#[10]⟩ : ByteArray).size ≤ maxLen := by unfold maxLen; omega
 have hsb := hsz (lnX x).length (Nat.le_refl _)
 rw [List.take_length, eb] at hsb
 have hmul : (lnX x).length * (26000000 + 1) ≤ 1048577 * (26000000 + 1) := Nat.mul_le_mul_right _ len
 have hbd : (bdT v x).size ≤ 30000000000000 := by omega
 have ck := a1t (bdT v x) (by omega)
 have ci := eP (iF (bdT v x) (bdT v x).size) (a0k _ _)
 have zi := dM (iF (bdT v x) (bdT v x).size) (a0k _ _)
 have m5 : (bdT v x).size + (itoaB (iF (bdT v x) (bdT v x).size)).size ≤ maxLen := by unfold maxLen; omega
 have m6 : (bdT v x ++ itoaB (iF (bdT v x) (bdT v x).size)).size + (⟨#[46]⟩ : ByteArray).size ≤ maxLen := by unfold maxLen; rw [ByteArray.size_append]; omega
 refine ent Tryz.func41 rfl Tryz.call41 rfl (fun C => ?_); simp only [go_sem, st0, Tryz.ntmps41]
 cases h0 : eY x
 ·have fin : slT v x = ⟨#[]⟩ := by unfold slT; rw [h0]; rfl
  have q0 := @h0; refine iX (kP x hx.sm) ?_
  exact aA ⟨⟨_, rfl, by simp only [go_sem, fin]⟩, trivial⟩
 cases h1 : inB v 1 1000000000
 ·have fin : slT v x = ⟨#[]⟩ := by unfold slT; rw [h0, h1]; rfl
  have q0 := @h0; have q1 := @h1; refine uS (kP x hx.sm) (bA v 1 1000000000) ?_
  exact aA ⟨⟨_, rfl, by simp only [go_sem, fin]⟩, trivial⟩
 have fin : slT v x = bdT v x ++ itoaB (iF (bdT v x) (bdT v x).size) ++ ⟨#[46]⟩ := by unfold slT; rw [h0, h1]; rfl
 generalize itoaB (iF (bdT v x) (bdT v x).size) = zz at *
 have q0 := @h0; have q1 := @h1; have q2 := @mv; have q3 := @bH; refine a8Y (kP x hx.sm) (bA v 1 1000000000) cv c ?_
 generalize lnX x = nm at *
 refine bD (α := Nat) (fun k => [(5, os (catB (itoaB v ++ ⟨#[10]⟩) (nm.take k))), (7, oi k)]) (fun _ => []) (fun k => k ≤ nm.length) (fun k => nm.length - k) 0 (fun _ => ?_) ?_ ?_ (fun k hk => ?_)
 ·simp only [go_sem]
 ·simp only [go_sem]; simp [catB]
 ·simp
 simp only [go_sem]
 have q0 := @bH; refine iG ?_
 refine cnd rfl (fun h => ?_) (fun h => ?_)
 ·simp only [decide_eq_true_eq, Int.ofNat_lt] at h
  have hk1 := hsz k hk
  have hk2 := hls nm[k] (List.getElem_mem h)
  have hk3 : k * (26000000 + 1) ≤ 1048577 * (26000000 + 1) := Nat.mul_le_mul_right _ (by omega)
  have hn := a0Q (itoaB v ++ ⟨#[10]⟩) nm k h
  generalize catB (itoaB v ++ ⟨#[10]⟩) (nm.take k) = s at *
  have m1 : s.size + nm[k].size ≤ maxLen := by unfold maxLen; omega
  have m2 : (s ++ nm[k]).size + (⟨#[10]⟩ : ByteArray).size ≤ maxLen := by unfold maxLen; rw [ByteArray.size_append]; omega
  have q0 := @h; have q1 := @m1; have q2 := @m2; have q3 := @bH; refine iW ?_
  refine aD (k + 1) ?_ ?_ ?_
  ·simp only [go_sem, hn]; try simp
  ·exact h
  ·omega
 simp only [decide_eq_false_iff_not] at h
 have e : k = nm.length := by omega
 subst e
 rw [List.take_length, eb]
 have q0 := @m5; have q1 := @m6; refine uS ck ci ?_
 exact aA ⟨⟨_, rfl, by simp only [go_sem, fin]⟩, trivial⟩
end Go.Proofs.YtgpoopjfkplilaaGreatDoor
end
section
set_option maxRecDepth 100000
set_option maxHeartbeats 4000000
namespace Go.Proofs.YtgpoopjfkplilaaGreatDoor
open Go Go.Sx Go.Wd Go.RowKit Go.Proofs
theorem b6K {s : ByteArray} {k : Nat} (h : k < s.size) : (dA s k = 10) ↔ s.data.toList[k]? = some 10 := by
 have hk : k < s.data.toList.length := h
 unfold dA
 rw [List.getD_eq_getElem?_getD, List.getElem?_eq_getElem hk]
 generalize s.data.toList[k] = b
 simp only [Option.getD_some, Option.some.injEq]
 constructor
 ·intro e
  have : b.toNat = 10 := by omega
  exact UInt8.toNat_inj.1 this
 ·intro e; rw [e]; rfl
theorem b2g (s : ByteArray) (hs : s.size ≤ 4300000) : FnC Tryz.prog 60 [os s] (.o (.w 9 1 ((pieces 10 s).dropLast.map bN))) := by
 refine ent Tryz.func60 rfl Tryz.call60 rfl (fun C => ?_); simp only [go_sem, st0, Tryz.ntmps60]
 have hall := b4k 10 s
 have hsz : s.data.toList.length = s.size := rfl
 rw [hsz] at hall
 refine aH ?_
 refine bD (α := Nat) (fun k => [(3, .o (.s 0)), (4, oi ((cutS 10 s.data.toList k).2 : Nat)), (5, oi (k : Nat)), (6, .o .u)]) (fun k => [(0, .row 9 1 ((ofL (cutS 10 s.data.toList k).1).map bN) true)]) (fun k => k ≤ s.size) (fun k => s.size - k) 0 (fun _ => ?_) ?_ ?_ (fun k hk => ?_)
 ·simp only [go_sem]
 ·simp only [go_sem]; simp [cutS, ofL]
 ·omega
 simp only [go_sem]
 refine aH ?_
 refine cnd rfl (fun h => ?_) (fun h => ?_)
 ·simp only [decide_eq_true_eq, Int.ofNat_lt] at h
  have hb := (a6x 10 s.data.toList k (by omega)).2
  have hl := a8l 10 s.data.toList k
  have hb10 := b6K h
  have hsk : cutS 10 s.data.toList (k + 1) = if s.data.toList[k]? = some 10 then ((cutS 10 s.data.toList k).1 ++ [(s.data.toList.take k).drop (cutS 10 s.data.toList k).2], k + 1) else cutS 10 s.data.toList k := rfl
  have hx := a6y s (cutS 10 s.data.toList k).2 k
  generalize cutS 10 s.data.toList k = q at *
  obtain ⟨O, B⟩ := q
  simp only at *
  by_cases hc : dA s k = 10
  ·have d : decide (dA s k = 10) = true := by simp [hc]
   rw [if_pos (hb10.1 hc)] at hsk
   have g1 : (ofL O).length + 1 ≤ 140737488355328 := by rw [b0T]; omega
   have g2 : ((ofL O).length + 1) * 16 ≤ 140737488355328 := by rw [b0T]; omega
   have hks : k ≤ s.size := by omega
   have hn : ofL (cutS 10 s.data.toList (k + 1)).1 = ofL O ++ [s.extract B k] := by rw [hsk, b5z, hx]; rfl
   have hn2 : (cutS 10 s.data.toList (k + 1)).2 = k + 1 := by rw [hsk]
   clear hc
   have q0 := @h; have q1 := @d; have q2 := @g1; have q3 := @g2; have q4 := @hb; have q5 := @hks; have q6 := @Int.toNat_natCast; have q7 := @bH; refine a0z ?_
   refine aD (k + 1) ?_ ?_ ?_
   ·simp only [go_sem, hn, hn2, List.map_append]
    simp
   ·exact h
   ·omega
  ·have d : decide (dA s k = 10) = false := by simp [hc]
   rw [if_neg (fun e => hc (hb10.2 e))] at hsk
   clear hc
   have q0 := @h; have q1 := @d; have q2 := @Int.toNat_natCast; have q3 := @bH; refine iW ?_
   refine aD (k + 1) ?_ ?_ ?_
   ·simp only [go_sem, hsk]; simp
   ·exact h
   ·omega
 ·simp only [decide_eq_false_iff_not, Int.ofNat_lt] at h
  have e : k = s.size := by omega
  subst e
  rw [hall]
  refine aH ?_
  exact aA ⟨⟨_, rfl, by simp only [go_sem]⟩, trivial⟩
theorem a9C (s : ByteArray) (hs : s.size ≤ 4300000) : FnC Tryz.prog 60 [os s] (.o (.d (.sl ((pieces 10 s).dropLast.map bN)))) := (b2g s hs).pu (by simp only [go_sem, and_self])
noncomputable def dsX (s : ByteArray) : (Int × TSnapshot) × Bool :=
 let L := pieces 10 s
 if L.length < 2 then ((0, x0), false)
 else if (pU (part L 0)).2 && ((dcI L.dropLast.tail).2 && decide (slT (pU (part L 0)).1 (dcI L.dropLast.tail).1 = s)) then (((pU (part L 0)).1, (dcI L.dropLast.tail).1), true) else ((0, x0), false)
noncomputable abbrev rDS (r : (Int × TSnapshot) × Bool) : SV := .t [(false, [.d (iv r.1.1)]), (true, [.w 81 2 (r.1.2.fStore.fSchema.map aY), .w 86 5 (r.1.2.fStore.fFiles.map bR), .d (iv r.1.2.fStore.fNextID), .w 90 2 (r.1.2.fDirs.map bX)]), (false, [.d (bv r.2)])]
theorem a3O (w : List ByteArray) : ((List.map bN w).take (w.length - 1)).drop 1 = List.map bN w.dropLast.tail := by rw [← List.map_take, ← List.dropLast_eq_take, ← List.map_drop, List.drop_one]
theorem zs_dl (w : List ByteArray) : zs w.dropLast.tail + 2 ≤ zs w ∨ w.length < 2 := by
 match w with
 | [] => exact .inr (by simp)
 | [x] => exact .inr (by simp)
 | x :: y :: r =>
  refine .inl ?_
  have h1 : (x :: y :: r).dropLast.tail = (y :: r).dropLast := rfl
  have h2 := List.dropLast_concat_getLast (l := y :: r) (by simp)
  have h3 := a0p (y :: r).dropLast [(y :: r).getLast (by simp)]
  rw [h2] at h3
  rw [h1, jJ]
  rw [jJ (y :: r |>.getLast (by simp)), a5q] at h3
  omega
theorem oP (s : ByteArray) (hs : s.size ≤ 1048576) : FnC Tryz.prog 30 [os s] (rDS (dsX s)) := by
 refine ent Tryz.func30 rfl Tryz.call30 rfl (fun C => ?_); simp only [go_sem, st0, Tryz.ntmps30]
 have cs := a5b s 10 (by omega)
 have hz := kJ 10 s
 have hd : dsX s = if (pieces 10 s).length < 2 then ((0, x0), false) else if (pU (part (pieces 10 s) 0)).2 && ((dcI (pieces 10 s).dropLast.tail).2 && decide (slT (pU (part (pieces 10 s) 0)).1 (dcI (pieces 10 s).dropLast.tail).1 = s)) then (((pU (part (pieces 10 s) 0)).1, (dcI (pieces 10 s).dropLast.tail).1), true) else ((0, x0), false) := rfl
 generalize pieces 10 s = L at *
 by_cases h2 : L.length < 2
 ·have d : decide (((L.length : Nat) : Int) < 2) = true := by rw [decide_eq_true_iff]; omega
  have e : dsX s = ((0, x0), false) := by rw [hd, if_pos h2]
  have q0 := @d; have q1 := @bH; refine uR cs ?_
  exact aA ⟨⟨_, rfl, by simp only [go_sem, e, x0]⟩, by simp [aL]⟩
 have d : decide (((L.length : Nat) : Int) < 2) = false := by rw [decide_eq_false_iff_not]; omega
 rw [if_neg h2] at hd
 have l0 : 0 < L.length := by omega
 rw [fB l0] at hd
 have cu : FnC Tryz.prog 63 [os L[0]] (.t [(false, [.d (iv (pU L[0]).1)]), (false, [.d (bv (pU L[0]).2)])]) := gF L[0]
 have hzt : zs L.dropLast.tail + 2 ≤ zs L := by rcases zs_dl L with h | h <;> omega
 have cd := a9I L.dropLast.tail (by omega)
 have sm : (dcI L.dropLast.tail).2 = true → SmX (dcI L.dropLast.tail).1 := fun h => a9J h (by omega)
 have hin := a5n L[0]
 have sb1 : (1 : Int) ≤ ((L.length : Nat) : Int) - 1 := by omega
 have sb2 : ((L.length : Nat) : Int) - 1 ≤ ((L.length : Nat) : Int) := by omega
 have sb3 : (((L.length : Nat) : Int) - 1).toNat = L.length - 1 := by omega
 have sb4 : -9223372036854775808 ≤ ((L.length : Nat) : Int) - 1 := by omega
 have sb5 : ((L.length : Nat) : Int) - 1 ≤ 9223372036854775807 := by have := uF L; omega
 generalize pU L[0] = u at *
 obtain ⟨n, one⟩ := u
 generalize hL : L.dropLast.tail = T at *
 have td := a3O L
 rw [hL] at td
 generalize dcI T = y at *
 obtain ⟨x, two⟩ := y
 simp only at *
 cases one
 ·have e : dsX s = ((0, x0), false) := by rw [hd]; rfl
  have qH := aI @d (aI @l0 (aI @sb1 (aI @sb2 (aI @sb3 (aI @sb4 (aI @sb5 (aI @td (aI @Bool.not_false @bH)))))))); repeat' (with_reducible first | refine nY ?_ | (refine mX ?_; try simp only [go_sem, qH]) | refine kD ?_ | refine rD ?_ | refine And.intro (lH L) ?_ | refine cP cs ?_ | refine cP cu ?_ | refine cP cd ?_ | refine aO ?_ | fail)
  exact aA ⟨⟨_, rfl, by simp only [go_sem, e, x0]⟩, by simp [aL]⟩
 cases two
 ·have e : dsX s = ((0, x0), false) := by rw [hd]; rfl
  have qH := aI @d (aI @l0 (aI @sb1 (aI @sb2 (aI @sb3 (aI @sb4 (aI @sb5 (aI @td (aI @Bool.not_false (aI @Bool.not_true @bH))))))))); repeat' (with_reducible first | refine nY ?_ | (refine mX ?_; try simp only [go_sem, qH]) | refine kD ?_ | refine rD ?_ | refine And.intro (lH L) ?_ | refine cP cs ?_ | refine cP cu ?_ | refine cP cd ?_ | refine aO ?_ | fail)
  exact aA ⟨⟨_, rfl, by simp only [go_sem, e, x0]⟩, by simp [aL]⟩
 have hx := sm rfl
 have ce := a1n n x hx hin
 cases hq : decide (slT n x = s)
 ·have e : dsX s = ((0, x0), false) := by rw [hd, hq]; rfl
  have qH := aI @d (aI @l0 (aI @sb1 (aI @sb2 (aI @sb3 (aI @sb4 (aI @sb5 (aI @td (aI @hq (aI @Bool.not_false (aI @Bool.not_true @bH)))))))))); repeat' (with_reducible first | refine nY ?_ | (refine mX ?_; try simp only [go_sem, qH]) | refine kD ?_ | refine rD ?_ | refine And.intro (lH L) ?_ | refine cP cs ?_ | refine cP cu ?_ | refine cP cd ?_ | refine vL ce ?_ | refine aO ?_ | fail)
  exact aA ⟨⟨_, rfl, by simp only [go_sem, e, x0]⟩, by simp [aL]⟩
 ·have e : dsX s = ((n, x), true) := by rw [hd, hq]; rfl
  have qH := aI @d (aI @l0 (aI @sb1 (aI @sb2 (aI @sb3 (aI @sb4 (aI @sb5 (aI @td (aI @hq (aI @Bool.not_false (aI @Bool.not_true @bH)))))))))); repeat' (with_reducible first | refine nY ?_ | (refine mX ?_; try simp only [go_sem, qH]) | refine kD ?_ | (apply rE [3] [] [0,1,2] [0,1,2] ((.c 3 [4] [4] .n .n)) (by simp only [go_sem]; rfl) (by simp only [go_sem]; rfl) (by simp only [go_sem]; rfl) (by decide +kernel); (focus simp only [go_sem]; done)) | exact bY | refine bJ (uX ?_) ?_ | refine bK (aX ?_) ?_ | refine bL (aX ?_) ?_ | exact bI | exact oH | (refine uA ?_; simp only [go_sem, qH]; (repeat' first | omega | exact lH L | refine And.intro ?_ ?_); done) | refine rD ?_ | refine And.intro (lH L) ?_ | refine cP cs ?_ | refine cP cu ?_ | refine cP cd ?_ | refine vL ce ?_ | refine aO ?_ | fail)
  exact aA ⟨⟨_, rfl, by simp only [go_sem, e]⟩, by simp [aL]⟩
theorem a9D : pieces 10 ⟨#[]⟩ = [⟨#[]⟩] := by decide
theorem b5m (n : Int) (x : TSnapshot) (h : n = 0) : slT n x = ⟨#[]⟩ := by
 subst h
 unfold slT
 have : inB 0 1 1000000000 = false := by decide
 rw [this, Bool.and_false]; rfl
theorem a9E (w : List ByteArray) : (List.map bN w).drop 1 = List.map bN w.tail := a5c w
theorem oQ (s : ByteArray) (hs : s.size ≤ 1048576) : FnC Tryz.prog 29 [os s] (rDS (dsX s)) := by
 refine ent Tryz.func29 rfl Tryz.call29 rfl (fun C => ?_); simp only [go_sem, st0, Tryz.ntmps29]
 have cs := a9C s (by omega)
 have hz := kJ 10 s
 have hne : 2 ≤ (pieces 10 s).length → s ≠ ⟨#[]⟩ := fun h e => by rw [e, a9D] at h; simp at h
 have hd : dsX s = if (pieces 10 s).length < 2 then ((0, x0), false) else if (pU (part (pieces 10 s) 0)).2 && ((dcI (pieces 10 s).dropLast.tail).2 && decide (slT (pU (part (pieces 10 s) 0)).1 (dcI (pieces 10 s).dropLast.tail).1 = s)) then (((pU (part (pieces 10 s) 0)).1, (dcI (pieces 10 s).dropLast.tail).1), true) else ((0, x0), false) := rfl
 have hzl := uF (pieces 10 s)
 have hpart : 2 ≤ (pieces 10 s).length → part (pieces 10 s) 0 = part (pieces 10 s).dropLast 0 := fun h => by
  have e1 : 0 < (pieces 10 s).length := by omega
  have e2 : 0 < (pieces 10 s).dropLast.length := by rw [List.length_dropLast]; omega
  rw [fB e1, fB e2, List.getElem_dropLast]
 have hzd := zs_dl (pieces 10 s)
 have hdl : (pieces 10 s).dropLast.length = (pieces 10 s).length - 1 := List.length_dropLast
 generalize pieces 10 s = L at *
 generalize L.dropLast = M at *
 by_cases h2 : L.length < 2
 ·have d : decide (((M.length : Nat) : Int) = 0) = true := by rw [decide_eq_true_iff]; omega
  have e : dsX s = ((0, x0), false) := by rw [hd, if_pos h2]
  have q0 := @d; have q1 := @bH; refine uR cs ?_
  exact aA ⟨⟨_, rfl, by simp only [go_sem, e, x0]⟩, by simp [aL]⟩
 have d : decide (((M.length : Nat) : Int) = 0) = false := by rw [decide_eq_false_iff_not]; omega
 rw [if_neg h2, hpart (by omega)] at hd
 have l0 : 0 < M.length := by omega
 rw [fB l0] at hd
 have cu : FnC Tryz.prog 61 [os M[0]] (.t [(false, [.d (iv (pU M[0]).1)]), (false, [.d (bv (pU M[0]).2)])]) := lZ M[0]
 have hzt : zs M.tail + 2 ≤ zs L := by rcases hzd with h | h <;> omega
 have cd := a9F M.tail (by omega)
 rw [← b5n] at cd
 have sm : (dcI M.tail).2 = true → SmX (dcI M.tail).1 := fun h => a9J h (by omega)
 have hin := a5n M[0]
 have hbad : (pU M[0]).2 = false → (pU M[0]).1 = 0 := fun h => by
  unfold pU at h ⊢
  split at h
  ·cases h
  ·rename_i hc; rw [dif_neg hc]
 have sb1 : (1 : Int) ≤ ((M.length : Nat) : Int) := by omega
 have hsne := hne (by omega)
 generalize pU M[0] = u at *
 obtain ⟨n, one⟩ := u
 generalize hL : M.tail = T at *
 have td := a9E M
 rw [hL] at td
 generalize dcI T = y at *
 obtain ⟨x, two⟩ := y
 simp only at *
 cases two
 ·have e : dsX s = ((0, x0), false) := by rw [hd]; simp
  have qH := aI @d (aI @l0 (aI @sb1 (aI @nR (aI @td (aI @Int.toNat_natCast (aI @Bool.not_false (aI @Bool.not_true @bH))))))); repeat' (with_reducible first | refine nY ?_ | (refine mX ?_; try simp only [go_sem, qH]) | refine kD ?_ | refine rD ?_ | refine And.intro (lH M) ?_ | refine cP cs ?_ | refine cP cu ?_ | refine cP cd ?_ | refine aO ?_ | fail)
  exact aA ⟨⟨_, rfl, by simp only [go_sem, e, x0]⟩, by simp [aL]⟩
 have hx := sm rfl
 have ce := a1o n x hx hin
 cases hq : decide (slT n x = s)
 ·have e : dsX s = ((0, x0), false) := by rw [hd, hq]; simp
  have qH := aI @d (aI @l0 (aI @sb1 (aI @nR (aI @td (aI @hq (aI @Int.toNat_natCast (aI @Bool.not_false (aI @Bool.not_true @bH)))))))); repeat' (with_reducible first | refine nY ?_ | (refine mX ?_; try simp only [go_sem, qH]) | refine kD ?_ | refine rD ?_ | refine And.intro (lH M) ?_ | refine cP cs ?_ | refine cP cu ?_ | refine cP cd ?_ | refine vL ce ?_ | refine aO ?_ | fail)
  exact aA ⟨⟨_, rfl, by simp only [go_sem, e, x0]⟩, by simp [aL]⟩
 ·have ho : one = true := by
   cases one with
   | true => rfl
   | false =>
    exfalso
    have := b5m n x (hbad rfl)
    have h1 : slT n x = s := by simpa using hq
    exact hsne (h1.symm.trans this)
  subst ho
  have e : dsX s = ((n, x), true) := by rw [hd, hq]; rfl
  have qH := aI @d (aI @l0 (aI @sb1 (aI @nR (aI @td (aI @hq (aI @Int.toNat_natCast (aI @Bool.not_false (aI @Bool.not_true @bH)))))))); repeat' (with_reducible first | refine nY ?_ | (refine mX ?_; try simp only [go_sem, qH]) | refine kD ?_ | (apply rE [3] [] [0,1,2] [0,1,2] ((.c 3 [4] [4] .n .n)) (by simp only [go_sem]; rfl) (by simp only [go_sem]; rfl) (by simp only [go_sem]; rfl) (by decide +kernel); (focus simp only [go_sem]; done)) | exact bY | refine bJ (uX ?_) ?_ | refine bK (aX ?_) ?_ | refine bL (aX ?_) ?_ | exact bI | exact oH | (refine uA ?_; simp only [go_sem, qH]; (repeat' first | omega | exact lH M | refine And.intro ?_ ?_); done) | refine rD ?_ | refine And.intro (lH M) ?_ | refine cP cs ?_ | refine cP cu ?_ | refine cP cd ?_ | refine vL ce ?_ | refine aO ?_ | fail)
  exact aA ⟨⟨_, rfl, by simp only [go_sem, e]⟩, by simp [aL]⟩
theorem a6q {s : ByteArray} (h : (dsX s).2 = false) : dsX s = ((0, x0), false) := by
 unfold dsX at h ⊢
 simp only at h ⊢
 split
 ·rfl
 ·rename_i h2
  rw [if_neg h2] at h
  split at h
  ·cases h
  ·rename_i h3; rw [if_neg h3]
theorem a9A {s : ByteArray} (hs : s.size ≤ 1048576) : aK (dsX s).1.2 ≤ 1048576 ∧ (0 ≤ (dsX s).1.1 ∧ (dsX s).1.1 ≤ 1000000000) := by
 cases h : (dsX s).2 with
 | false => rw [a6q h]; exact ⟨by show aK x0 ≤ _; rw [b4a]; omega, by simp⟩
 | true =>
  have hz := kJ 10 s
  have hzd := zs_dl (pieces 10 s)
  unfold dsX at h ⊢
  simp only at h ⊢
  split
  ·rename_i h2; rw [if_pos h2] at h; cases h
  ·rename_i h2
   rw [if_neg h2] at h
   split
   ·refine ⟨b6L (by rcases hzd with h | h <;> omega), a9R _⟩
   ·rename_i h3; rw [if_neg h3] at h; cases h
theorem a3M (s : ByteArray) (hf : s.size ≤ 9223372036854775807) : FnC Tryz.prog 7 [os s] (ob true) := by
 refine ent Tryz.func7 rfl Tryz.call7 rfl (fun C => ?_); simp only [go_sem, st0, Tryz.ntmps7]
 by_cases h0 : (1048576 : Int) < ((s.size : Nat) : Int)
 ·have d : decide ((1048576 : Int) < ((s.size : Nat) : Int)) = true := by simpa using h0
  have q0 := @d; refine iG ?_
  exact aA ⟨⟨_, rfl, by simp only [go_sem]⟩, trivial⟩
 have d : decide ((1048576 : Int) < ((s.size : Nat) : Int)) = false := by simpa using h0
 have hs : s.size ≤ 1048576 := by omega
 have hi := oP s hs
 have hk := oQ s hs
 obtain ⟨hX, hn⟩ := a9A hs
 generalize dsX s = r at *
 obtain ⟨⟨n, X⟩, B⟩ := r
 have hX : aK X ≤ 1048576 := hX
 have hq := hX
 unfold aK dC aP fF fK at hq
 have hx1 := a4N X.fStore.fSchema
 have hx2 := a7V X.fStore.fFiles
 have hx3 := b0I X.fDirs
 have k2 : ¬ ((1 : Int) + (csum cnField X.fStore.fSchema : Nat) + (csum cnFile X.fStore.fFiles : Nat) + (csum cnDir X.fDirs : Nat) < 0) := by omega
 cases B
 all_goals
  have q0 := @d; have q1 := @k2; have q2 := @Bool.true_beq; have q3 := @Bool.false_beq; refine iW ?_
  repeat' (with_reducible first | refine nX ?_ | (refine mX ?_; try simp only [go_sem]) | refine kD ?_ | refine cP hk ?_ | refine aO ?_ | fail)
  have qH := aI @d (aI @k2 (aI @Bool.true_beq @Bool.false_beq)); repeat' (with_reducible first | refine nY ?_ | (refine mX ?_; try simp only [go_sem, qH]) | refine kD ?_ | refine rD ?_ | refine vO hi ?_ | refine vQ hi ?_ | refine vO (iU X (by omega)) ?_ | refine vQ (iU X (by omega)) ?_ | refine vM (tL X _ (by omega)) ?_ | refine vO (kE X 1 (by omega)) ?_ | refine vQ (kE X 1 (by omega)) ?_ | refine aO ?_ | fail)
  exact aA ⟨⟨_, rfl, by simp only [go_sem]⟩, trivial⟩
noncomputable def lsX (d : TDisk) : (Int × TSnapshot) × Bool := if (dsX d.fSlotB).2 && (!(dsX d.fSlotA).2 || decide ((dsX d.fSlotA).1.1 < (dsX d.fSlotB).1.1)) then ((dsX d.fSlotB).1, true) else dsX d.fSlotA
noncomputable def lsF (d : TDisk) : Bool := if (dsX d.fSlotB).2 && (!(dsX d.fSlotA).2 || decide ((dsX d.fSlotA).1.1 < (dsX d.fSlotB).1.1)) then false else (dsX d.fSlotA).2
noncomputable def lsG (d : TDisk) : Bool := (dsX d.fSlotA).2 && (!(dsX d.fSlotB).2 || decide ((dsX d.fSlotB).1.1 ≤ (dsX d.fSlotA).1.1))
theorem a9B {d : TDisk} (ha : d.fSlotA.size ≤ 1048576) (hb : d.fSlotB.size ≤ 1048576) : aK (lsX d).1.2 ≤ 1048576 ∧ (0 ≤ (lsX d).1.1 ∧ (lsX d).1.1 ≤ 1000000000) := by
 unfold lsX
 split
 ·exact a9A hb
 ·exact a9A ha
noncomputable abbrev rLS (r : (Int × TSnapshot) × Bool) (f : Bool) : SV := .t [(false, [.d (iv r.1.1)]), (true, [.w 81 2 (r.1.2.fStore.fSchema.map aY), .w 86 5 (r.1.2.fStore.fFiles.map bR), .d (iv r.1.2.fStore.fNextID), .w 90 2 (r.1.2.fDirs.map bX)]), (false, [.d (bv r.2)]), (false, [.d (bv f)])]
theorem uZ (d : TDisk) (ha : d.fSlotA.size ≤ 1048576) (hb : d.fSlotB.size ≤ 1048576) : FnC Tryz.prog 32 [tK d] (rLS (lsX d) (lsF d)) := by
 refine ent Tryz.func32 rfl Tryz.call32 rfl (fun C => ?_); simp only [go_sem, st0, Tryz.ntmps32]
 have ca := oP d.fSlotA ha
 have cb := oP d.fSlotB hb
 have hm : lsX d = if (dsX d.fSlotB).2 && (!(dsX d.fSlotA).2 || decide ((dsX d.fSlotA).1.1 < (dsX d.fSlotB).1.1)) then ((dsX d.fSlotB).1, true) else dsX d.fSlotA := rfl
 have hg : lsF d = if (dsX d.fSlotB).2 && (!(dsX d.fSlotA).2 || decide ((dsX d.fSlotA).1.1 < (dsX d.fSlotB).1.1)) then false else (dsX d.fSlotA).2 := rfl
 obtain ⟨A, B⟩ := d
 simp only at *
 generalize dsX A = a at *
 generalize dsX B = b at *
 obtain ⟨⟨n, X⟩, p⟩ := a
 obtain ⟨⟨m, Y⟩, q⟩ := b
 simp only at *
 cases q
 ·have e : lsX ⟨A, B⟩ = ((n, X), p) := by rw [hm]; simp
  have e2 : lsF ⟨A, B⟩ = p := by rw [hg]; simp
  have qH := @Bool.not_false; repeat' (with_reducible first | refine nY ?_ | (refine mX ?_; try simp only [go_sem, qH]) | refine kD ?_ | (apply rE [5] [] [0,1,2,3,4] [0,1,2,3,4] ((.c 5 [6,7] [2,3,6,7] .n .n)) (by simp only [go_sem]; rfl) (by simp only [go_sem]; rfl) (by simp only [go_sem]; rfl) (by decide +kernel); (focus simp only [go_sem]; done)) | exact bY | refine bJ (uX ?_) ?_ | refine bK (aX ?_) ?_ | refine bL (aX ?_) ?_ | exact bI | exact oH | exact uB | refine rD ?_ | refine cP ca ?_ | refine cP cb ?_ | refine aO ?_ | fail)
  exact aA ⟨⟨_, rfl, by simp only [go_sem, e, e2]⟩, by simp [aL]⟩
 cases p
 ·have e : lsX ⟨A, B⟩ = ((m, Y), true) := by rw [hm]; simp
  have e2 : lsF ⟨A, B⟩ = false := by rw [hg]; simp
  have qH := @Bool.not_false; repeat' (with_reducible first | refine nY ?_ | (refine mX ?_; try simp only [go_sem, qH]) | refine kD ?_ | (apply rE [3] [] [0,1,2] [0,1,2] ((.c 3 [4,5] [4,5] .n .n)) (by simp only [go_sem]; rfl) (by simp only [go_sem]; rfl) (by simp only [go_sem]; rfl) (by decide +kernel); (focus simp only [go_sem]; done)) | exact bY | refine bJ (uX ?_) ?_ | refine bK (aX ?_) ?_ | refine bL (aX ?_) ?_ | exact bI | exact oH | exact uB | refine rD ?_ | refine cP ca ?_ | refine cP cb ?_ | refine aO ?_ | fail)
  exact aA ⟨⟨_, rfl, by simp only [go_sem, e, e2]⟩, by simp [aL]⟩
 cases hd : decide (n < m)
 ·have e : lsX ⟨A, B⟩ = ((n, X), true) := by rw [hm, hd]; rfl
  have e2 : lsF ⟨A, B⟩ = true := by rw [hg, hd]; rfl
  have qH := aI @hd @Bool.not_true; repeat' (with_reducible first | refine nY ?_ | (refine mX ?_; try simp only [go_sem, qH]) | refine kD ?_ | (apply rE [5] [] [0,1,2,3,4] [0,1,2,3,4] ((.c 5 [6,7] [2,3,6,7] .n .n)) (by simp only [go_sem]; rfl) (by simp only [go_sem]; rfl) (by simp only [go_sem]; rfl) (by decide +kernel); (focus simp only [go_sem]; done)) | exact bY | refine bJ (uX ?_) ?_ | refine bK (aX ?_) ?_ | refine bL (aX ?_) ?_ | exact bI | exact oH | exact uB | refine rD ?_ | refine cP ca ?_ | refine cP cb ?_ | refine aO ?_ | fail)
  exact aA ⟨⟨_, rfl, by simp only [go_sem, e, e2]⟩, by simp [aL]⟩
 ·have e : lsX ⟨A, B⟩ = ((m, Y), true) := by rw [hm, hd]; rfl
  have e2 : lsF ⟨A, B⟩ = false := by rw [hg, hd]; rfl
  have qH := aI @hd @Bool.not_true; repeat' (with_reducible first | refine nY ?_ | (refine mX ?_; try simp only [go_sem, qH]) | refine kD ?_ | (apply rE [3] [] [0,1,2] [0,1,2] ((.c 3 [4,5] [4,5] .n .n)) (by simp only [go_sem]; rfl) (by simp only [go_sem]; rfl) (by simp only [go_sem]; rfl) (by decide +kernel); (focus simp only [go_sem]; done)) | exact bY | refine bJ (uX ?_) ?_ | refine bK (aX ?_) ?_ | refine bL (aX ?_) ?_ | exact bI | exact oH | exact uB | refine rD ?_ | refine cP ca ?_ | refine cP cb ?_ | refine aO ?_ | fail)
  exact aA ⟨⟨_, rfl, by simp only [go_sem, e, e2]⟩, by simp [aL]⟩
theorem a3m (d : TDisk) (ha : d.fSlotA.size ≤ 1048576) (hb : d.fSlotB.size ≤ 1048576) : FnC Tryz.prog 31 [tK d] (rLS (lsX d) (lsG d)) := by
 refine ent Tryz.func31 rfl Tryz.call31 rfl (fun C => ?_); simp only [go_sem, st0, Tryz.ntmps31]
 have ca := oQ d.fSlotA ha
 have cb := oQ d.fSlotB hb
 have za := @a6q d.fSlotA
 have zb := @a6q d.fSlotB
 have hm : lsX d = if (dsX d.fSlotB).2 && (!(dsX d.fSlotA).2 || decide ((dsX d.fSlotA).1.1 < (dsX d.fSlotB).1.1)) then ((dsX d.fSlotB).1, true) else dsX d.fSlotA := rfl
 have hg : lsG d = ((dsX d.fSlotA).2 && (!(dsX d.fSlotB).2 || decide ((dsX d.fSlotB).1.1 ≤ (dsX d.fSlotA).1.1))) := rfl
 obtain ⟨A, B⟩ := d
 simp only at *
 generalize dsX A = a at *
 generalize dsX B = b at *
 obtain ⟨⟨n, X⟩, p⟩ := a
 obtain ⟨⟨m, Y⟩, q⟩ := b
 simp only at *
 cases p
 ·have e : lsX ⟨A, B⟩ = ((m, Y), q) := by
   rw [hm]
   cases q with
   | true => simp
   | false =>
    have h1 := za rfl
    have h2 := zb rfl
    simp only [Bool.false_and, Bool.false_eq_true, if_false]
    rw [h1, h2]
  have e2 : lsG ⟨A, B⟩ = false := by rw [hg]; simp
  have qH := @Bool.not_false; repeat' (with_reducible first | refine nY ?_ | (refine mX ?_; try simp only [go_sem, qH]) | refine kD ?_ | (apply rE [4] [] [0,1,2,3] [0,1,2,3] ((.c 4 [5,6] [2,5,6] .n .n)) (by simp only [go_sem]; rfl) (by simp only [go_sem]; rfl) (by simp only [go_sem]; rfl) (by decide +kernel); (focus simp only [go_sem]; done)) | exact bY | refine bJ (uX ?_) ?_ | refine bK (aX ?_) ?_ | refine bL (aX ?_) ?_ | exact bI | exact oH | exact uB | refine rD ?_ | refine cP ca ?_ | refine cP cb ?_ | refine aO ?_ | fail)
  exact aA ⟨⟨_, rfl, by simp only [go_sem, e, e2]⟩, by simp [aL]⟩
 cases q
 ·have e : lsX ⟨A, B⟩ = ((n, X), true) := by rw [hm]; simp
  have e2 : lsG ⟨A, B⟩ = true := by rw [hg]; simp
  have qH := @Bool.not_false; repeat' (with_reducible first | refine nY ?_ | (refine mX ?_; try simp only [go_sem, qH]) | refine kD ?_ | (apply rE [3] [] [0,1,2] [0,1,2] ((.c 3 [4,5] [4,5] .n .n)) (by simp only [go_sem]; rfl) (by simp only [go_sem]; rfl) (by simp only [go_sem]; rfl) (by decide +kernel); (focus simp only [go_sem]; done)) | exact bY | refine bJ (uX ?_) ?_ | refine bK (aX ?_) ?_ | refine bL (aX ?_) ?_ | exact bI | exact oH | exact uB | refine rD ?_ | refine cP ca ?_ | refine cP cb ?_ | refine aO ?_ | fail)
  exact aA ⟨⟨_, rfl, by simp only [go_sem, e, e2]⟩, by simp [aL]⟩
 cases hd : decide (m ≤ n)
 ·have hlt : decide (n < m) = true := by simp only [decide_eq_false_iff_not] at hd; rw [decide_eq_true_iff]; omega
  have e : lsX ⟨A, B⟩ = ((m, Y), true) := by rw [hm, hlt]; rfl
  have e2 : lsG ⟨A, B⟩ = false := by rw [hg, hd]; rfl
  have qH := aI @hd @Bool.not_true; repeat' (with_reducible first | refine nY ?_ | (refine mX ?_; try simp only [go_sem, qH]) | refine kD ?_ | (apply rE [4] [] [0,1,2,3] [0,1,2,3] ((.c 4 [5,6] [2,5,6] .n .n)) (by simp only [go_sem]; rfl) (by simp only [go_sem]; rfl) (by simp only [go_sem]; rfl) (by decide +kernel); (focus simp only [go_sem]; done)) | exact bY | refine bJ (uX ?_) ?_ | refine bK (aX ?_) ?_ | refine bL (aX ?_) ?_ | exact bI | exact oH | exact uB | refine rD ?_ | refine cP ca ?_ | refine cP cb ?_ | refine aO ?_ | fail)
  exact aA ⟨⟨_, rfl, by simp only [go_sem, e, e2]⟩, by simp [aL]⟩
 ·have hlt : decide (n < m) = false := by simp only [decide_eq_true_eq] at hd; rw [decide_eq_false_iff_not]; omega
  have e : lsX ⟨A, B⟩ = ((n, X), true) := by rw [hm, hlt]; rfl
  have e2 : lsG ⟨A, B⟩ = true := by rw [hg, hd]; rfl
  have qH := aI @hd @Bool.not_true; repeat' (with_reducible first | refine nY ?_ | (refine mX ?_; try simp only [go_sem, qH]) | refine kD ?_ | (apply rE [3] [] [0,1,2] [0,1,2] ((.c 3 [4,5] [4,5] .n .n)) (by simp only [go_sem]; rfl) (by simp only [go_sem]; rfl) (by simp only [go_sem]; rfl) (by decide +kernel); (focus simp only [go_sem]; done)) | exact bY | refine bJ (uX ?_) ?_ | refine bK (aX ?_) ?_ | refine bL (aX ?_) ?_ | exact bI | exact oH | exact uB | refine rD ?_ | refine cP ca ?_ | refine cP cb ?_ | refine aO ?_ | fail)
  exact aA ⟨⟨_, rfl, by simp only [go_sem, e, e2]⟩, by simp [aL]⟩
theorem a3N (d : TDisk) (ha : d.fSlotA.size ≤ 1048576) (hb : d.fSlotB.size ≤ 1048576) : FnC Tryz.prog 11 [tK d] (rDS (lsX d)) := by
 refine ent Tryz.func11 rfl Tryz.call11 rfl (fun C => ?_); simp only [go_sem, st0, Tryz.ntmps11]
 have c := uZ d ha hb
 generalize lsX d = r at *
 generalize lsF d = f at *
 obtain ⟨⟨n, X⟩, p⟩ := r
 have qH := trivial; repeat' (with_reducible first | refine nY ?_ | (refine mX ?_; try simp only [go_sem]) | refine kD ?_ | (apply rE [4] [] [0,1,2,3] [0,1,2,3] ((.c 4 [5] [2,5] .n .n)) (by simp only [go_sem]; rfl) (by simp only [go_sem]; rfl) (by simp only [go_sem]; rfl) (by decide +kernel); (focus simp only [go_sem]; done)) | exact bY | refine bJ (uX ?_) ?_ | refine bK (aX ?_) ?_ | refine bL (aX ?_) ?_ | exact bI | exact oH | (refine uA ?_; simp only [go_sem]; (repeat' first | omega | refine And.intro ?_ ?_); done) | refine rD ?_ | refine cP c ?_ | refine aO ?_ | fail)
 exact aA ⟨⟨_, rfl, by simp only [go_sem, Prod.fst]⟩, by simp [aL]⟩
theorem wR (d : TDisk) (ha : d.fSlotA.size ≤ 1048576) (hb : d.fSlotB.size ≤ 1048576) : FnC Tryz.prog 9 [tK d] (rDS (lsX d)) := by
 refine ent Tryz.func9 rfl Tryz.call9 rfl (fun C => ?_); simp only [go_sem, st0, Tryz.ntmps9]
 have c := a3m d ha hb
 generalize lsX d = r at *
 generalize lsG d = f at *
 obtain ⟨⟨n, X⟩, p⟩ := r
 have qH := trivial; repeat' (with_reducible first | refine nY ?_ | (refine mX ?_; try simp only [go_sem]) | refine kD ?_ | (apply rE [4] [] [0,1,2,3] [0,1,2,3] ((.c 4 [5] [2,5] .n .n)) (by simp only [go_sem]; rfl) (by simp only [go_sem]; rfl) (by simp only [go_sem]; rfl) (by decide +kernel); (focus simp only [go_sem]; done)) | exact bY | refine bJ (uX ?_) ?_ | refine bK (aX ?_) ?_ | refine bL (aX ?_) ?_ | exact bI | exact oH | (refine uA ?_; simp only [go_sem]; (repeat' first | omega | refine And.intro ?_ ?_); done) | refine rD ?_ | refine cP c ?_ | refine aO ?_ | fail)
 exact aA ⟨⟨_, rfl, by simp only [go_sem, Prod.fst]⟩, by simp [aL]⟩
theorem a7Y (d : TDisk) (x : TSnapshot) (ha : d.fSlotA.size ≤ 1048576) (hb : d.fSlotB.size ≤ 1048576) (hx : SmX x) : FnC Tryz.prog 44 [tK d, dZ x] (.t [(false, [.d (sv (slT ((lsX d).1.1 + 1) x))]), (false, [.d (bv (!lsF d))])]) := by
 refine ent Tryz.func44 rfl Tryz.call44 rfl (fun C => ?_); simp only [go_sem, st0, Tryz.ntmps44]
 have c := uZ d ha hb
 have hn := (a9B ha hb).2
 generalize lsX d = r at *
 generalize lsF d = f at *
 obtain ⟨⟨n, X⟩, p⟩ := r
 simp only at *
 have h1 : -9223372036854775808 ≤ n + 1 := by omega
 have h2 : n + 1 ≤ 9223372036854775807 := by omega
 have cs := a1n (n + 1) x hx (by unfold inR; simp only; omega)
 have q0 := @h1; have q1 := @h2; refine uS c cs ?_
 exact aA ⟨⟨_, rfl, by simp only [go_sem, Prod.fst]⟩, by simp [aL]⟩
end Go.Proofs.YtgpoopjfkplilaaGreatDoor
end
