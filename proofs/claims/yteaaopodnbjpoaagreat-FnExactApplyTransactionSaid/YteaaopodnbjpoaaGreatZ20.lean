/- Joined texts. -/
import Derived.Test.YteaaopodnbjpoaaGreatZ07
import Derived.Test.YteaaopodnbjpoaaGreatZ06
import Derived.Test.YteaaopodnbjpoaaGreatZ19
set_option linter.all false
section
namespace Go.Proofs.YteaaopodnbjpoaaGreat
open Go Go.Sx Go.RowKit Go.Proofs
def wT (u : Int) : List TFile → Int
 | [] => 0
 | f :: r => (if f.fOwner = u then 1 + (f.fAttrs.length : Int) else 0) + wT u r
theorem a2h (u : Int) : ∀ (l : List TFile) {k : Nat} (h : k < l.length), wT u (l.take (k + 1)) = wT u (l.take k) + (if l[k].fOwner = u then 1 + (l[k].fAttrs.length : Int) else 0)
 | [], _, h => by simp at h
 | x :: l, 0, _ => by simp [wT]
 | x :: l, k + 1, h => by
  have := a2h u l (k := k) (by simpa using h)
  simp only [List.take_succ_cons, List.getElem_cons_succ, wT]; omega
theorem a8a (u : Int) : ∀ (l : List TFile), 0 ≤ wT u l ∧ wT u l ≤ l.length + (wsum wFile l : Nat)
 | [] => by simp [wT]
 | x :: l => by
  have := a8a u l
  have h2 : x.fAttrs.length ≤ wFile x := by unfold wFile dN; omega
  simp only [wT, wsum, List.length_cons]
  split <;> omega
theorem a2i (s : TStore) (u : Int) (h : aL s ≤ 4200000) : FnC Tryz.prog 90 [cZ s, oi u] (oi (wT u s.fFiles)) := by
 unfold aL bY at h
 refine ent Tryz.func90 rfl Tryz.call90 rfl (fun C => ?_); simp only [go_sem, st0, Tryz.ntmps90]
 refine aD ?_
 refine aN (α := Nat) (fun k => [(5, oi (wT u (s.fFiles.take k))), (6, oi k)]) (fun _ => []) (fun k => k ≤ s.fFiles.length) (fun k => s.fFiles.length - k) 0 (fun _ => ?_) ?_ ?_ (fun k hk => ?_)
 ·simp only [go_sem]
 ·simp only [go_sem]; simp [wT]
 ·simp
 ·simp only [go_sem]
  refine aD ?_
  refine cnd rfl (fun h1 => ?_) (fun h1 => ?_)
  ·simp only [decide_eq_true_eq, Int.ofNat_lt] at h1
   have hw := bA wFile s.fFiles h1
   have ht := a2h u s.fFiles h1
   have hl := a8a u (s.fFiles.take k)
   have hm := kY wFile s.fFiles k
   have hn : (s.fFiles.take k).length ≤ s.fFiles.length := by simp; omega
   have ha : s.fFiles[k].fAttrs.length ≤ wFile s.fFiles[k] := by unfold wFile dN; omega
   have q0 := @h1; refine fU ?_
   refine cnd rfl (fun h2 => ?_) (fun h2 => ?_)
   all_goals
    simp only [decide_eq_true_eq, decide_eq_false_iff_not] at h2
    simp only [h2, if_true, if_false] at ht
    have q0 := @h1; refine fC (a2V s.fFiles[k] (by omega)) ?_
    refine aF (k + 1) ?_ ?_ ?_
    ·simp only [go_sem]; simp; omega
    ·omega
    ·omega
  ·simp only [decide_eq_false_iff_not] at h1
   have e : k = s.fFiles.length := by omega
   subst e
   refine aD ?_
   exact aA ⟨⟨_, rfl, by simp only [go_sem, List.take_length]⟩, trivial⟩
theorem a2j (s : TStore) (u : Int) (h : aL s ≤ 4200000) : FnC Tryz.prog 112 [cZ s, oi u] (oi (wT u s.fFiles)) := by
 unfold aL bY at h
 refine ent Tryz.func112 rfl Tryz.call112 rfl (fun C => ?_); simp only [go_sem, st0, Tryz.ntmps112]
 refine aD ?_
 refine aN (α := Nat) (fun k => [(5, oi (wT u (s.fFiles.take k))), (11, oi k)]) (fun _ => []) (fun k => k ≤ s.fFiles.length) (fun k => s.fFiles.length - k) 0 (fun _ => ?_) ?_ ?_ (fun k hk => ?_)
 ·simp only [go_sem]
 ·simp only [go_sem]; simp [wT]
 ·simp
 ·simp only [go_sem]
  refine aD ?_
  refine cnd rfl (fun h1 => ?_) (fun h1 => ?_)
  ·simp only [decide_eq_true_eq, Int.ofNat_lt] at h1
   have hw := bA wFile s.fFiles h1
   have ht := a2h u s.fFiles h1
   have hl := a8a u (s.fFiles.take k)
   have hm := kY wFile s.fFiles k
   have hn : (s.fFiles.take k).length ≤ s.fFiles.length := by simp; omega
   have ha : s.fFiles[k].fAttrs.length ≤ wFile s.fFiles[k] := by unfold wFile dN; omega
   have q0 := @h1; refine fU ?_
   refine cnd rfl (fun h2 => ?_) (fun h2 => ?_)
   all_goals
    simp only [decide_eq_true_eq, decide_eq_false_iff_not] at h2
    simp only [h2, if_true, if_false] at ht
    have q0 := @h1; refine fC (a2W s.fFiles[k] (by omega)) ?_
    refine aF (k + 1) ?_ ?_ ?_
    ·simp only [go_sem]; simp; omega
    ·omega
    ·omega
  ·simp only [decide_eq_false_iff_not] at h1
   have e : k = s.fFiles.length := by omega
   subst e
   refine aD ?_
   exact aA ⟨⟨_, rfl, by simp only [go_sem, List.take_length]⟩, trivial⟩
def qAt (q : List Int) (u : Int) : Int := if inB u 0 ((q.length : Int) - 1) then q.getD u.toNat 0 else 0
theorem a8b (q : List Int) (u : Int) (hq : q.length ≤ 1048576) : FnC Tryz.prog 91 [.o (.d (slI q)), oi u] (oi (qAt q u)) := by
 refine ent Tryz.func91 rfl Tryz.call91 rfl (fun C => ?_); simp only [go_sem, st0, Tryz.ntmps91]
 cases h1 : inB u 0 ((q.length : Int) - 1)
 ·have q0 := @h1; refine fC (aW u 0 ((q.length : Int) - 1)) ?_
  exact aA ⟨⟨_, rfl, by simp only [go_sem, qAt, h1]⟩, trivial⟩
 ·have h2 : 0 ≤ u ∧ u ≤ (q.length : Int) - 1 := by simpa [inB] using h1
  have h3 : u.toNat < q.length := by omega
  have e : qAt q u = q[u.toNat] := by simp [qAt, h1, List.getD_eq_getElem?_getD, h3]
  have q0 := @h1; have q1 := @h3; have q2 := @h2.1; refine mF (aW u 0 ((q.length : Int) - 1)) ?_
  exact aA ⟨⟨_, rfl, by simp only [go_sem, e]⟩, trivial⟩
theorem a5i (q : List Int) (u : Int) (hq : q.length ≤ 1048576) : FnC Tryz.prog 113 [.o (.d (slI q)), oi u] (oi (qAt q u)) := by
 refine ent Tryz.func113 rfl Tryz.call113 rfl (fun C => ?_); simp only [go_sem, st0, Tryz.ntmps113]
 cases h1 : inB u 0 ((q.length : Int) - 1)
 ·have q0 := @h1; refine fC (aQ u 0 ((q.length : Int) - 1)) ?_
  exact aA ⟨⟨_, rfl, by simp only [go_sem, qAt, h1]⟩, trivial⟩
 ·have h2 : 0 ≤ u ∧ u ≤ (q.length : Int) - 1 := by simpa [inB] using h1
  have h3 : u.toNat < q.length := by omega
  have e : qAt q u = q[u.toNat] := by simp [qAt, h1, List.getD_eq_getElem?_getD, h3]
  have q0 := @h1; have q1 := @h3; have q2 := @h2.1; refine mF (aQ u 0 ((q.length : Int) - 1)) ?_
  exact aA ⟨⟨_, rfl, by simp only [go_sem, e]⟩, trivial⟩
def c0B (s : TStore) (q : List Int) (u : Int) : Int := if qAt q u ≤ wT u s.fFiles then 0 else qAt q u - wT u s.fFiles
def a5j (s : TStore) (q : List Int) (u : Nat) : Bool := decide (qAt q u < wT u s.fFiles)
def qIn (s : TStore) (q : List Int) : Bool := !(a5j s q 0) && (!(a5j s q 1) && !(a5j s q 2))
theorem yF (s : TStore) (q : List Int) (h : aL s ≤ 4200000) (hq : q.length ≤ 1048576) : FnC Tryz.prog 42 [cZ s, .o (.d (slI q))] (ob (qIn s q)) := by
 refine ent Tryz.func42 rfl Tryz.call42 rfl (fun C => ?_); simp only [go_sem, st0, Tryz.ntmps42]
 refine aD ?_
 refine aN (α := Nat) (fun k => [(5, oi k)]) (fun _ => []) (fun k => k ≤ 3 ∧ ∀ j, j < k → a5j s q j = false) (fun k => 3 - k) 0 (fun _ => ?_) ?_ ?_ (fun k hk => ?_)
 ·simp only [go_sem]
 ·simp only [go_sem]; simp
 ·simp
 ·obtain ⟨hk, hj⟩ := hk
  simp only [go_sem]
  refine aD ?_
  refine cnd rfl (fun h1 => ?_) (fun h1 => ?_)
  ·simp only [decide_eq_true_eq] at h1
   refine a3S (a2i s k h) (a8b q k hq) ?_
   refine cnd (b := a5j s q k) rfl (fun h2 => ?_) (fun h2 => ?_)
   ·have e : qIn s q = false := by
     have : k = 0 ∨ k = 1 ∨ k = 2 := by omega
     rcases this with rfl | rfl | rfl <;> simp [qIn, h2]
    refine aD ?_
    exact aA ⟨⟨_, rfl, by simp only [go_sem, e]⟩, trivial⟩
   ·refine aD ?_
    refine aF (k + 1) ?_ ?_ ?_
    ·simp only [go_sem]; simp
    ·refine ⟨by omega, fun j hj' => ?_⟩
     rcases Nat.lt_or_ge j k with hl | hl
     ·exact hj j hl
     ·have : j = k := by omega
      subst this; exact h2
    ·omega
  ·simp only [decide_eq_false_iff_not] at h1
   have e : qIn s q = true := by simp [qIn, hj 0 (by omega), hj 1 (by omega), hj 2 (by omega)]
   refine aD ?_
   exact aA ⟨⟨_, rfl, by simp only [go_sem, e]⟩, trivial⟩
theorem yG (s : TStore) (q : List Int) (h : aL s ≤ 4200000) (hq : q.length ≤ 1048576) : FnC Tryz.prog 50 [cZ s, .o (.d (slI q))] (ob (qIn s q)) := by
 refine ent Tryz.func50 rfl Tryz.call50 rfl (fun C => ?_); simp only [go_sem, st0, Tryz.ntmps50]
 refine aD ?_
 refine aN (α := Nat) (fun k => [(6, oi k)]) (fun _ => []) (fun k => k ≤ 3 ∧ ∀ j, j < k → a5j s q j = false) (fun k => 3 - k) 0 (fun _ => ?_) ?_ ?_ (fun k hk => ?_)
 ·simp only [go_sem]
 ·simp only [go_sem]; simp
 ·simp
 ·obtain ⟨hk, hj⟩ := hk
  simp only [go_sem]
  refine aD ?_
  refine cnd rfl (fun h1 => ?_) (fun h1 => ?_)
  ·simp only [decide_eq_true_eq] at h1
   refine a3S (a2j s k h) (a5i q k hq) ?_
   refine cnd (b := a5j s q k) rfl (fun h2 => ?_) (fun h2 => ?_)
   ·have e : qIn s q = false := by
     have : k = 0 ∨ k = 1 ∨ k = 2 := by omega
     rcases this with rfl | rfl | rfl <;> simp [qIn, h2]
    refine aD ?_
    exact aA ⟨⟨_, rfl, by simp only [go_sem, e]⟩, trivial⟩
   ·refine aD ?_
    refine aF (k + 1) ?_ ?_ ?_
    ·simp only [go_sem]; simp
    ·refine ⟨by omega, fun j hj' => ?_⟩
     rcases Nat.lt_or_ge j k with hl | hl
     ·exact hj j hl
     ·have : j = k := by omega
      subst this; exact h2
    ·omega
  ·simp only [decide_eq_false_iff_not] at h1
   have e : qIn s q = true := by simp [qIn, hj 0 (by omega), hj 1 (by omega), hj 2 (by omega)]
   refine aD ?_
   exact aA ⟨⟨_, rfl, by simp only [go_sem, e]⟩, trivial⟩
end Go.Proofs.YteaaopodnbjpoaaGreat
end
section
set_option maxRecDepth 100000
set_option maxHeartbeats 4000000
namespace Go.Proofs.YteaaopodnbjpoaaGreat
open Go Go.Sx Go.RowKit Go.Proofs Go.Sx.Clos
theorem b8m {A B : Nat} (b : Bool) (c : TCatalog) (s : TStore) (d : List TDir) (ns : List ByteArray) (hr : aH c.fResults ≤ 95) (h1 : aL s ≤ A) (h2 : aL c.fStore ≤ A) (h3 : aP d ≤ B) (h4 : aP c.fDirs ≤ B) : aL (goC b c s d ns).fStore ≤ A ∧ aP (goC b c s d ns).fDirs ≤ B ∧ aH (goC b c s d ns).fResults ≤ 600 := by
 cases b
 ·exact ⟨h2, h4, Nat.le_trans hr (by decide)⟩
 ·exact ⟨h1, h3, b0z s d c.fResults ns hr⟩
theorem b6I (c : TCatalog) (u : Int) (o : TChange) (hc : kH c = true) : aL (jQ c u o).1.fStore ≤ aL c.fStore + wFile o.fFile + 1 ∧ aP (jQ c u o).1.fDirs ≤ aP c.fDirs + wDir o.fDir + 1 ∧ aH (jQ c u o).1.fResults ≤ 600 := by
 have hr := b4S hc
 have h0 : aL c.fStore ≤ aL c.fStore + wFile o.fFile + 1 ∧ aP c.fDirs ≤ aP c.fDirs + wDir o.fDir + 1 ∧ aH c.fResults ≤ 600 := ⟨by omega, by omega, by omega⟩
 have w1 := b1o c.fStore o.fFile
 have w2 := b1n c.fStore o.fFile
 have w3 := b1m c.fStore o.fID
 have w4 := b1j c.fDirs o.fDir
 have w5 := b2B c.fDirs o.fDir.fName
 unfold jQ
 repeat' split
 all_goals first
  | exact h0
  | exact b8m _ c _ _ _ hr (by omega) (by omega) (by omega) (by omega)
  | skip
 all_goals
  unfold uE b1A
  split
  ·exact ⟨by omega, by omega, by first | exact b0z _ _ _ _ hr | (split <;> first | exact b0z _ _ _ _ hr | omega)⟩
  ·exact h0
theorem b1S {c : TCatalog} {u : Int} {o : TChange} (h : (fD c u o).2.2 = true) : kH c = true ∧ aL (fD c u o).1.fStore ≤ aL c.fStore + wFile o.fFile + 1 ∧ aP (fD c u o).1.fDirs ≤ aP c.fDirs + wDir o.fDir + 1 ∧ aH (fD c u o).1.fResults ≤ 600 := by
 unfold fD at h ⊢
 split at h
 ·rename_i e
  rw [if_pos e]
  rw [Bool.and_eq_true] at e
  exact ⟨e.2, b6I c u o e.2⟩
 ·cases h
def zCh : TChange := ⟨0, zF, 0, ⟨⟨#[]⟩, []⟩⟩
noncomputable def txK (c : TCatalog) (u : Int) (l : List TChange) : Nat → TCatalog × Bool
 | 0 => (c, true)
 | k + 1 => ((fD (txK c u l k).1 u (l.getD k zCh)).1, (txK c u l k).2 && (fD (txK c u l k).1 u (l.getD k zCh)).2.2)
theorem b0x {c : TCatalog} {u : Int} {l : List TChange} {k : Nat} (h : (txK c u l k).2 = false) : ∀ {n : Nat}, k ≤ n → (txK c u l n).2 = false
 | 0, hn => by have e : k = 0 := by omega
               subst e; exact h
 | n + 1, hn => by
  rcases Nat.lt_or_ge n k with g | g
  ·have e : k = n + 1 := by omega
   subst e; exact h
  ·have := b0x h g
   unfold txK
   rw [this]; rfl
theorem b4P (c : TCatalog) (u : Int) (l : List TChange) : ∀ k : Nat, k ≤ l.length → (txK c u l k).2 = true → aL (txK c u l k).1.fStore + aP (txK c u l k).1.fDirs ≤ aL c.fStore + aP c.fDirs + wsum wChange (l.take k) + 2 * k ∧ aH (txK c u l k).1.fResults ≤ aH c.fResults + 600
 | 0, _, _ => by simp [txK, wsum]
 | k + 1, hk, h => by
  unfold txK at h ⊢
  simp only [Bool.and_eq_true] at h ⊢
  have hi := b4P c u l k (by omega) h.1
  have hw := b1S h.2
  have hx : l.getD k zCh = l[k] := by rw [List.getD_eq_getElem?_getD, List.getElem?_eq_getElem (by omega)]; rfl
  rw [hx] at hw ⊢
  have ht := jL wChange l (k := k) (by omega)
  have hc : wChange l[k] = wFile l[k].fFile + wDir l[k].fDir := rfl
  rw [ht]
  omega
theorem b0y (c : TCatalog) (u : Int) (l : List TChange) (k : Nat) (hk : k ≤ l.length) (h6 : l.length ≤ 6) (hw : wCatalog c + wChangeS l ≤ 1048576) (h : (txK c u l k).2 = true) : wCatalog (txK c u l k).1 ≤ 1048576 + 700 := by
 have := b4P c u l k hk h
 have hc : wCatalog c = aL c.fStore + aP c.fDirs + aH c.fResults := rfl
 have hx : wCatalog (txK c u l k).1 = aL (txK c u l k).1.fStore + aP (txK c u l k).1.fDirs + aH (txK c u l k).1.fResults := rfl
 have hl : wChangeS l = l.length + wsum wChange l := rfl
 have hs := kY wChange l k
 omega
theorem b4Q (c : TCatalog) (u : Int) (l : List TChange) (k : Nat) (hk : k < l.length) (h6 : l.length ≤ 6) (hw : wCatalog c + wChangeS l ≤ 1048576) (h : (txK c u l k).2 = true) : wCatalog (txK c u l k).1 + wChange l[k] ≤ 1048576 + 700 := by
 have := b4P c u l k (by omega) h
 have hc : wCatalog c = aL c.fStore + aP c.fDirs + aH c.fResults := rfl
 have hx : wCatalog (txK c u l k).1 = aL (txK c u l k).1.fStore + aP (txK c u l k).1.fDirs + aH (txK c u l k).1.fResults := rfl
 have hl : wChangeS l = l.length + wsum wChange l := rfl
 have hs := kY wChange l (k + 1)
 have ht := jL wChange l hk
 omega
noncomputable def txO (c : TCatalog) (u : Int) (l : List TChange) : TCatalog := (txK c u l l.length).1
noncomputable def txB (c : TCatalog) (u : Int) (l : List TChange) (q : List Int) : Bool := kH c && (decide (l.length ≤ 6) && ((txK c u l l.length).2 && qIn (txO c u l).fStore q))
noncomputable def txC (c : TCatalog) (u : Int) (l : List TChange) (q : List Int) : TCatalog := if txB c u l q then txO c u l else c
noncomputable def txD (c : TCatalog) (u : Int) (l : List TChange) (q : List Int) : List TDiff := if txB c u l q then gF c.fResults (txO c u l).fResults else []
theorem b4R {c : TCatalog} {u : Int} {l : List TChange} {q : List Int} (h : txB c u l q = true) : kH c = true ∧ l.length ≤ 6 ∧ (txK c u l l.length).2 = true ∧ aH (txO c u l).fResults ≤ 600 := by
 unfold txB at h
 simp only [Bool.and_eq_true, decide_eq_true_eq] at h
 refine ⟨h.1, h.2.1, h.2.2.1, ?_⟩
 have hr := b4S h.1
 have := h.2.2.1
 unfold txO
 cases hn : l.length with
 | zero => simp only [txK]; omega
 | succ n =>
  rw [hn] at this
  unfold txK at this ⊢
  simp only [Bool.and_eq_true] at this
  exact (b1S this.2).2.2.2
theorem c0f (c : TCatalog) (u : Int) (l : List TChange) (q : List Int) (hw : wCatalog c + wChangeS l ≤ 1048576) : aL (txC c u l q).fStore ≤ 8600000 ∧ aP (txC c u l q).fDirs ≤ 8600000 ∧ aH (txC c u l q).fResults ≤ 8600000 ∧ lG (txD c u l q) ≤ 8600000 := by
 have hc : wCatalog c = aL c.fStore + aP c.fDirs + aH c.fResults := rfl
 unfold txC txD
 cases h : txB c u l q
 ·exact ⟨by simp only [Bool.false_eq_true, if_false]; omega, by simp only [Bool.false_eq_true, if_false]; omega, by simp only [Bool.false_eq_true, if_false]; omega, by simp [lG, wsum]⟩
 ·simp only [if_true]
  obtain ⟨q1, q2, q3, q4⟩ := b4R h
  have hx := b0y c u l l.length (Nat.le_refl _) q2 hw q3
  have he : wCatalog (txO c u l) = aL (txO c u l).fStore + aP (txO c u l).fDirs + aH (txO c u l).fResults := rfl
  have hd := b6L c.fResults (txO c u l).fResults (b4S q1) q4
  have : wCatalog (txO c u l) ≤ 1048576 + 700 := hx
  exact ⟨by omega, by omega, by omega, by omega⟩
end Go.Proofs.YteaaopodnbjpoaaGreat
end
section
set_option maxRecDepth 100000
set_option maxHeartbeats 4000000
namespace Go.Proofs.YteaaopodnbjpoaaGreat
open Go Go.Sx Go.RowKit Go.Proofs Go.Sx.Clos
theorem a7g (c : TCatalog) (u : Int) (l : List TChange) (q : List Int) (hw : wCatalog c + wChangeS l ≤ 1048576) (hq : q.length ≤ 1048576) : FnC Tryz.prog 13 [bK c, oi u, .o (.d (.sl (l.map dV))), .o (.d (slI q))] (.t [(true, (jV (txC c u l q)).cells), (false, [.w 100 3 ((txD c u l q).map dH)]), (false, [.d (bv (txB c u l q))])]) := by
 have hcw : wCatalog c = aL c.fStore + aP c.fDirs + aH c.fResults := rfl
 have hlw : wChangeS l = l.length + wsum wChange l := rfl
 refine ent Tryz.func13 rfl Tryz.call13 rfl (fun C => ?_); simp only [go_sem, st0, Tryz.ntmps13]
 cases g1 : kH c
 ·have e : txB c u l q = false := by simp [txB, g1]
  have q0 := @g1; refine a1H (bI c (by omega)) (dP c (by omega)) ?_
  exact aA ⟨⟨_, rfl, by simp only [go_sem, txC, txD, e, Bool.false_eq_true, if_false, if_true, List.map_nil]; try simp⟩, by simp [aK]⟩
 by_cases g2 : (6 : Int) < (l.length : Int)
 ·have e : txB c u l q = false := by
   have : ¬ l.length ≤ 6 := by omega
   simp [txB, this]
  have vi : decide ((6 : Int) < (l.length : Int)) = true := by simp [g2]
  have q0 := @g1; have q1 := @vi; refine uU (bI c (by omega)) (dP c (by omega)) ?_
  exact aA ⟨⟨_, rfl, by simp only [go_sem, txC, txD, e, Bool.false_eq_true, if_false, if_true, List.map_nil]; try simp⟩, by simp [aK]⟩
 have vi : decide ((6 : Int) < (l.length : Int)) = false := by simp [g2]
 have h6 : l.length ≤ 6 := by omega
 have q0 := @g1; have q1 := @vi; refine uU (bI c (by omega)) (dP c (by omega)) ?_
 refine aN (α := Nat) (fun k => [(31, oi k), (28, .o .u)]) (fun k => [(2, .row 196 2 ((txK c u l k).1.fStore.fSchema.map bH) true), (3, .row 70 5 ((txK c u l k).1.fStore.fFiles.map bB) true), (4, .row 73 2 ((txK c u l k).1.fDirs.map aM) true), (5, .row 141 2 ((txK c u l k).1.fResults.map aJ) true), (6, .box 41 [.s 2, .s 3, .d (iv (txK c u l k).1.fStore.fNextID), .s 4, .s 5])]) (fun k => k ≤ l.length ∧ (txK c u l k).2 = true) (fun k => l.length - k) 0 (fun _ => ?_) ?_ ?_ (fun k hk => ?_)
 ·simp only [go_sem]
 ·simp only [go_sem]; simp [txK]
 ·exact ⟨Nat.zero_le _, rfl⟩
 ·obtain ⟨hk1, hk2⟩ := hk
  have hx2 := b0y c u l k hk1 h6 hw hk2
  have hxw : wCatalog (txK c u l k).1 = aL (txK c u l k).1.fStore + aP (txK c u l k).1.fDirs + aH (txK c u l k).1.fResults := rfl
  simp only [go_sem]
  refine aD ?_
  refine cnd rfl (fun h1 => ?_) (fun h1 => ?_)
  ·simp only [decide_eq_true_eq, Int.ofNat_lt] at h1
   have hx3 := b4Q c u l k h1 h6 hw hk2
   have hgd : l.getD k zCh = l[k] := by rw [List.getD_eq_getElem?_getD, List.getElem?_eq_getElem h1]; rfl
   have hs : txK c u l (k + 1) = ((fD (txK c u l k).1 u l[k]).1, (txK c u l k).2 && (fD (txK c u l k).1 u l[k]).2.2) := by rw [← hgd]; rfl
   have ha := a7i (txK c u l k).1 u l[k] (by omega)
   cases g3 : (fD (txK c u l k).1 u l[k]).2.2
   ·have e : txB c u l q = false := by
     have h2 : (txK c u l (k + 1)).2 = false := by rw [hs]; simp [g3]
     have h3 := b0x h2 (n := l.length) (by omega)
     simp [txB, h3]
    rw [g3] at ha
    have qH := @h1; repeat' (with_reducible first | refine nY ?_ | (refine mX ?_; try simp only [go_sem, qH]) | refine kD ?_ | refine rD ?_ | refine vR ha ?_ | refine vD ha ?_ | refine cP (dP c (by omega)) ?_ | refine aO ?_ | fail)
    exact aA ⟨⟨_, rfl, by simp only [go_sem, txC, txD, e, Bool.false_eq_true, if_false, if_true, List.map_nil]; try simp⟩, by simp [aK]⟩
   ·rw [g3] at ha
    have qH := @h1; repeat' (with_reducible first | refine nY ?_ | (refine mX ?_; try simp only [go_sem, qH]) | refine kD ?_ | refine rD ?_ | refine vR ha ?_ | refine vD ha ?_ | refine aO ?_ | fail)
    refine b1H [(2, 8), (3, 9), (4, 10), (5, 11)] (k + 1) (by simp only [go_sem]; rfl) ?_ ?_ ?_
    ·simp only [go_sem]; simp [hs]
    ·exact ⟨by omega, by rw [hs]; simp [hk2, g3]⟩
    ·omega
  ·simp only [decide_eq_false_iff_not] at h1
   have ek : k = l.length := by omega
   subst ek
   have hin : FnC Tryz.prog 50 [cZ (txO c u l).fStore, .o (.d (slI q))] (ob (qIn (txO c u l).fStore q)) := yG (txO c u l).fStore q (by unfold txO; omega) hq
   unfold txO at hin
   cases g4 : qIn (txO c u l).fStore q
   ·have e : txB c u l q = false := by simp [txB, g4]
    unfold txO at g4
    rw [g4] at hin
    have qH := trivial; repeat' (with_reducible first | refine nY ?_ | (refine mX ?_; try simp only [go_sem]) | refine kD ?_ | refine rD ?_ | refine vL hin ?_ | refine cP (dP c (by omega)) ?_ | refine aO ?_ | fail)
    exact aA ⟨⟨_, rfl, by simp only [go_sem, txC, txD, e, Bool.false_eq_true, if_false, if_true, List.map_nil]; try simp⟩, by simp [aK]⟩
   ·have e : txB c u l q = true := by simp [txB, g1, h6, hk2, g4]
    have hr := (b4R e).2.2.2
    unfold txO at g4 hr
    rw [g4] at hin
    have hdf := uW c.fResults (txK c u l l.length).1.fResults (by omega) (by omega)
    have qH := trivial; repeat' (with_reducible first | refine nY ?_ | (refine mX ?_; try simp only [go_sem]) | refine kD ?_ | (apply rE [5,6] [] [0,1,2,3,4] [0,1,2,3,4] ((.c 5 [] [0] (.c 6 [7,8] [7,8] .n .n) .n)) (by simp only [go_sem]; rfl) (by simp only [go_sem]; rfl) (by simp only [go_sem]; rfl) (by decide +kernel); (focus simp only [go_sem]; done)) | exact dO | refine cB (uX ?_) ?_ | refine cK (aX ?_) ?_ | refine cO (aX ?_) ?_ | exact bZ | exact oH | (refine uA ?_; simp only [go_sem]; (repeat' first | omega | refine And.intro ?_ ?_); done) | refine rD ?_ | refine vL hin ?_ | refine vR hdf ?_ | refine vG hdf ?_ | refine aO ?_ | fail)
    exact aA ⟨⟨_, rfl, by simp only [go_sem, txC, txD, txO, e, Bool.false_eq_true, if_false, if_true, List.map_nil]; try simp⟩, by simp [aK]⟩
theorem a7h (c : TCatalog) (u : Int) (l : List TChange) (q : List Int) (hw : wCatalog c + wChangeS l ≤ 1048576) (hq : q.length ≤ 1048576) : FnC Tryz.prog 9 [bK c, oi u, .o (.d (.sl (l.map dV))), .o (.d (slI q))] (.t [(true, (bK (txC c u l q)).cells), (false, [.d (.sl ((txD c u l q).map dH))]), (false, [.d (bv (txB c u l q))])]) := by
 have hcw : wCatalog c = aL c.fStore + aP c.fDirs + aH c.fResults := rfl
 have hlw : wChangeS l = l.length + wsum wChange l := rfl
 refine ent Tryz.func9 rfl Tryz.call9 rfl (fun C => ?_); simp only [go_sem, st0, Tryz.ntmps9]
 cases g1 : kH c
 ·have e : txB c u l q = false := by simp [txB, g1]
  have q0 := @g1; refine a1H (bE c (by omega)) (bG c (by omega)) ?_
  first | refine aB (Sees.frz 1 rfl) ?_ | refine aB (Sees.frz 2 rfl) ?_ | refine aB (Sees.frz 3 rfl) ?_ | refine aB (Sees.frz 4 rfl) ?_ | refine aB (Sees.frz 5 rfl) ?_ | refine aB (Sees.frz 6 rfl) ?_ | refine aB (Sees.frz 7 rfl) ?_ | refine aB (Sees.frz 8 rfl) ?_ | refine aB (Sees.frz 9 rfl) ?_
  simp only [go_sem]
  exact aA ⟨⟨_, rfl, by simp only [go_sem, txC, txD, e, Bool.false_eq_true, if_false, if_true, List.map_nil]; try simp⟩, by simp [aK]⟩
 by_cases g2 : (6 : Int) < (l.length : Int)
 ·have e : txB c u l q = false := by
   have : ¬ l.length ≤ 6 := by omega
   simp [txB, this]
  have vi : decide ((6 : Int) < (l.length : Int)) = true := by simp [g2]
  have q0 := @g1; have q1 := @vi; refine uU (bE c (by omega)) (bG c (by omega)) ?_
  first | refine aB (Sees.frz 1 rfl) ?_ | refine aB (Sees.frz 2 rfl) ?_ | refine aB (Sees.frz 3 rfl) ?_ | refine aB (Sees.frz 4 rfl) ?_ | refine aB (Sees.frz 5 rfl) ?_ | refine aB (Sees.frz 6 rfl) ?_ | refine aB (Sees.frz 7 rfl) ?_ | refine aB (Sees.frz 8 rfl) ?_ | refine aB (Sees.frz 9 rfl) ?_
  simp only [go_sem]
  exact aA ⟨⟨_, rfl, by simp only [go_sem, txC, txD, e, Bool.false_eq_true, if_false, if_true, List.map_nil]; try simp⟩, by simp [aK]⟩
 have vi : decide ((6 : Int) < (l.length : Int)) = false := by simp [g2]
 have h6 : l.length ≤ 6 := by omega
 have q0 := @g1; have q1 := @vi; refine uU (bE c (by omega)) (bG c (by omega)) ?_
 refine aN (α := Nat) (fun k => [(13, oi k)]) (fun k => [(3, .box 41 [.d (.sl ((txK c u l k).1.fStore.fSchema.map bH)), .d (.sl ((txK c u l k).1.fStore.fFiles.map bB)), .d (iv (txK c u l k).1.fStore.fNextID), .d (.sl ((txK c u l k).1.fDirs.map aM)), .d (.sl ((txK c u l k).1.fResults.map aJ))])]) (fun k => k ≤ l.length ∧ (txK c u l k).2 = true) (fun k => l.length - k) 0 (fun _ => ?_) ?_ ?_ (fun k hk => ?_)
 ·simp only [go_sem]
 ·simp only [go_sem]; simp [txK]
 ·exact ⟨Nat.zero_le _, rfl⟩
 ·obtain ⟨hk1, hk2⟩ := hk
  have hx2 := b0y c u l k hk1 h6 hw hk2
  have hxw : wCatalog (txK c u l k).1 = aL (txK c u l k).1.fStore + aP (txK c u l k).1.fDirs + aH (txK c u l k).1.fResults := rfl
  simp only [go_sem]
  refine aD ?_
  refine cnd rfl (fun h1 => ?_) (fun h1 => ?_)
  ·simp only [decide_eq_true_eq, Int.ofNat_lt] at h1
   have hx3 := b4Q c u l k h1 h6 hw hk2
   have hgd : l.getD k zCh = l[k] := by rw [List.getD_eq_getElem?_getD, List.getElem?_eq_getElem h1]; rfl
   have hs : txK c u l (k + 1) = ((fD (txK c u l k).1 u l[k]).1, (txK c u l k).2 && (fD (txK c u l k).1 u l[k]).2.2) := by rw [← hgd]; rfl
   have ha := a7j (txK c u l k).1 u l[k] (by omega)
   cases g3 : (fD (txK c u l k).1 u l[k]).2.2
   ·have e : txB c u l q = false := by
     have h2 : (txK c u l (k + 1)).2 = false := by rw [hs]; simp [g3]
     have h3 := b0x h2 (n := l.length) (by omega)
     simp [txB, h3]
    rw [g3] at ha
    have qH := @h1; repeat' (with_reducible first | refine nY ?_ | (refine mX ?_; try simp only [go_sem, qH]) | refine kD ?_ | (apply rE [6,11] [] [0,1,2,3,4,5] [0,1,2,3,4,5] ((.c 6 [7,8,9,10] [7,8,9,10] (.c 11 [12] [9,10,12] .n .n) .n)) (by simp only [go_sem]; rfl) (by simp only [go_sem]; rfl) (by simp only [go_sem]; rfl) (by decide +kernel); (focus simp only [go_sem]; done)) | exact dO | refine cB (uX ?_) ?_ | refine cK (aX ?_) ?_ | refine cO (aX ?_) ?_ | exact bZ | exact oH | exact uB | refine rD ?_ | refine cP ha ?_ | refine cP (bG c (by omega)) ?_ | refine aO ?_ | fail)
    first | refine aB (Sees.frz 1 rfl) ?_ | refine aB (Sees.frz 2 rfl) ?_ | refine aB (Sees.frz 3 rfl) ?_ | refine aB (Sees.frz 4 rfl) ?_ | refine aB (Sees.frz 5 rfl) ?_ | refine aB (Sees.frz 6 rfl) ?_ | refine aB (Sees.frz 7 rfl) ?_ | refine aB (Sees.frz 8 rfl) ?_ | refine aB (Sees.frz 9 rfl) ?_
    simp only [go_sem]
    exact aA ⟨⟨_, rfl, by simp only [go_sem, txC, txD, e, Bool.false_eq_true, if_false, if_true, List.map_nil]; try simp⟩, by simp [aK]⟩
   ·rw [g3] at ha
    have qH := @h1; repeat' (with_reducible first | refine nY ?_ | (refine mX ?_; try simp only [go_sem, qH]) | refine kD ?_ | (apply rE [6,11] [] [0,1,2,3,4,5] [0,1,2,3,4,5] ((.c 6 [7,8,9,10] [7,8,9,10] (.c 11 [12] [9,10,12] .n .n) .n)) (by simp only [go_sem]; rfl) (by simp only [go_sem]; rfl) (by simp only [go_sem]; rfl) (by decide +kernel); (focus simp only [go_sem]; done)) | exact dO | refine cB (uX ?_) ?_ | refine cK (aX ?_) ?_ | refine cO (aX ?_) ?_ | exact bZ | exact oH | exact uB | refine rD ?_ | refine cP ha ?_ | refine aO ?_ | fail)
    refine aF (k + 1) ?_ ?_ ?_
    ·simp only [go_sem]; simp [hs]
    ·exact ⟨by omega, by rw [hs]; simp [hk2, g3]⟩
    ·omega
  ·simp only [decide_eq_false_iff_not] at h1
   have ek : k = l.length := by omega
   subst ek
   have hin : FnC Tryz.prog 42 [cZ (txO c u l).fStore, .o (.d (slI q))] (ob (qIn (txO c u l).fStore q)) := yF (txO c u l).fStore q (by unfold txO; omega) hq
   unfold txO at hin
   cases g4 : qIn (txO c u l).fStore q
   ·have e : txB c u l q = false := by simp [txB, g4]
    unfold txO at g4
    rw [g4] at hin
    refine a3S hin (bG c (by omega)) ?_
    first | refine aB (Sees.frz 1 rfl) ?_ | refine aB (Sees.frz 2 rfl) ?_ | refine aB (Sees.frz 3 rfl) ?_ | refine aB (Sees.frz 4 rfl) ?_ | refine aB (Sees.frz 5 rfl) ?_ | refine aB (Sees.frz 6 rfl) ?_ | refine aB (Sees.frz 7 rfl) ?_ | refine aB (Sees.frz 8 rfl) ?_ | refine aB (Sees.frz 9 rfl) ?_
    simp only [go_sem]
    exact aA ⟨⟨_, rfl, by simp only [go_sem, txC, txD, e, Bool.false_eq_true, if_false, if_true, List.map_nil]; try simp⟩, by simp [aK]⟩
   ·have e : txB c u l q = true := by simp [txB, g1, h6, hk2, g4]
    have hr := (b4R e).2.2.2
    unfold txO at g4 hr
    rw [g4] at hin
    have hdf := a0Q c.fResults (txK c u l l.length).1.fResults (by omega) (by omega)
    have qH := trivial; repeat' (with_reducible first | refine nY ?_ | (refine mX ?_; try simp only [go_sem]) | refine kD ?_ | (apply rE [5,6] [] [0,1,2,3,4] [0,1,2,3,4] ((.c 5 [] [0] (.c 6 [7,8] [7,8] .n .n) .n)) (by simp only [go_sem]; rfl) (by simp only [go_sem]; rfl) (by simp only [go_sem]; rfl) (by decide +kernel); (focus simp only [go_sem]; done)) | exact dO | refine cB (uX ?_) ?_ | refine cK (aX ?_) ?_ | refine cO (aX ?_) ?_ | exact bZ | exact oH | (refine uA ?_; simp only [go_sem]; (repeat' first | omega | refine And.intro ?_ ?_); done) | refine rD ?_ | refine cP hin ?_ | refine cP hdf ?_ | refine aO ?_ | fail)
    first | refine aB (Sees.frz 1 rfl) ?_ | refine aB (Sees.frz 2 rfl) ?_ | refine aB (Sees.frz 3 rfl) ?_ | refine aB (Sees.frz 4 rfl) ?_ | refine aB (Sees.frz 5 rfl) ?_ | refine aB (Sees.frz 6 rfl) ?_ | refine aB (Sees.frz 7 rfl) ?_ | refine aB (Sees.frz 8 rfl) ?_ | refine aB (Sees.frz 9 rfl) ?_
    simp only [go_sem]
    exact aA ⟨⟨_, rfl, by simp only [go_sem, txC, txD, txO, e, Bool.false_eq_true, if_false, if_true, List.map_nil]; try simp⟩, by simp [aK]⟩
theorem uV (c : TCatalog) (u : Int) (l : List TChange) (q : List Int) (hfc : sV c) (hfl : yR l) (hfq : a0f q) : FnC Tryz.prog 3 [bK c, oi u, .o (.d (.sl (l.map dV))), .o (.d (slI q))] (ob true) := by
 refine ent Tryz.func3 rfl Tryz.call3 rfl (fun C => ?_); simp only [go_sem, st0, Tryz.ntmps3]
 by_cases gq : (1048576 : Int) < (q.length : Int)
 ·have q0 := @gq; have q1 := @decide_true; refine lF ?_
  exact aA ⟨⟨_, rfl, by simp only [go_sem]⟩, trivial⟩
 have z1 := a7v c 1048576 (by omega) hfc
 by_cases h1 : bP 1048576 (wCatalog c) < 0
 ·have q0 := @gq; have q1 := @h1; refine mM z1 ?_
  exact aA ⟨⟨_, rfl, by simp only [go_sem]⟩, trivial⟩
 have s1 : wCatalog c ≤ 1048576 := by have := a8O h1; omega
 have e1 : bP 1048576 (wCatalog c) = 1048576 - (wCatalog c : Nat) := aY (by omega)
 rw [e1] at z1 h1
 have z2 := a7w l (1048576 - (wCatalog c : Nat)) (by omega) hfl
 by_cases h2 : bP (1048576 - (wCatalog c : Nat)) (wChangeS l) < 0
 ·have q0 := @gq; have q1 := @h1; have q2 := @h2; refine a5m z1 z2 ?_
  exact aA ⟨⟨_, rfl, by simp only [go_sem]⟩, trivial⟩
 have s2 : wCatalog c + wChangeS l ≤ 1048576 := by have := a8O h2; omega
 have e2 : bP (1048576 - (wCatalog c : Nat)) (wChangeS l) = 1048576 - (wCatalog c : Nat) - (wChangeS l : Nat) := aY (by omega)
 rw [e2] at z2 h2
 have b1c : aL c.fStore = aT c.fStore.fSchema + bY c.fStore.fFiles := rfl
 have b2c : bY c.fStore.fFiles = c.fStore.fFiles.length + wsum wFile c.fStore.fFiles := rfl
 have b3c : c.fStore.fSchema.length ≤ aT c.fStore.fSchema := by unfold aT; omega
 have b4c : aP c.fDirs = c.fDirs.length + wsum wDir c.fDirs := rfl
 have b5c : aH c.fResults = c.fResults.length + wsum wResult c.fResults := rfl
 have b6c := a6m c.fStore.fSchema
 have b7c := a9a c.fStore.fFiles
 have b8c := b2a c.fDirs
 have b9c := a4t c.fResults
 have b0c : wCatalog c = aL c.fStore + aP c.fDirs + aH c.fResults := rfl
 have f1l := b0L l
 have f2l : wChangeS l = l.length + wsum wChange l := rfl
 have f1q := a3l q
 have hi := a7g c u l q (by omega) (by omega)
 have hk := a7h c u l q (by omega) (by omega)
 have hC := c0f c u l q (by omega)
 generalize (txC c u l q) = X at *
 generalize (txD c u l q) = Y at *
 generalize (txB c u l q) = B at *
 obtain ⟨q1, q2, q3, q4⟩ := hC
 have b1X : aL X.fStore = aT X.fStore.fSchema + bY X.fStore.fFiles := rfl
 have b2X : bY X.fStore.fFiles = X.fStore.fFiles.length + wsum wFile X.fStore.fFiles := rfl
 have b3X : X.fStore.fSchema.length ≤ aT X.fStore.fSchema := by unfold aT; omega
 have b4X : aP X.fDirs = X.fDirs.length + wsum wDir X.fDirs := rfl
 have b5X : aH X.fResults = X.fResults.length + wsum wResult X.fResults := rfl
 have b6X := a6m X.fStore.fSchema
 have b7X := a9a X.fStore.fFiles
 have b8X := b2a X.fDirs
 have b9X := a4t X.fResults
 have b0X : wCatalog X = aL X.fStore + aP X.fDirs + aH X.fResults := rfl
 have hX : wCatalog X ≤ 67108864 := by unfold wCatalog; omega
 have k1 : ¬ ((1 : Int) + (csum cnField c.fStore.fSchema : Nat) + (csum cnFile c.fStore.fFiles : Nat) + (csum cnDir c.fDirs : Nat) + (csum cnResult c.fResults : Nat) + (csum cnChange l : Nat) + (csum cnInt q : Nat) < 0) := by omega
 have k2 : ¬ ((1 : Int) + (csum cnField X.fStore.fSchema : Nat) + (csum cnFile X.fStore.fFiles : Nat) + (csum cnDir X.fDirs : Nat) + (csum cnResult X.fResults : Nat) < 0) := by omega
 have y1 := b5k Y
 have y2 : lG Y = Y.length + wsum wL Y := rfl
 have k3 : ¬ ((1 : Int) + (csum cnField X.fStore.fSchema : Nat) + (csum cnFile X.fStore.fFiles : Nat) + (csum cnDir X.fDirs : Nat) + (csum cnResult X.fResults : Nat) + (csum cnDiff Y : Nat) < 0) := by omega
 cases B
 all_goals
  have q0 := @gq; have q1 := @h1; have q2 := @h2; have q3 := @k1; have q4 := @k2; have q5 := @k3; have q6 := @Bool.true_beq; have q7 := @Bool.false_beq; refine b3d z1 z2 ?_
  repeat' (with_reducible first | refine nX ?_ | (refine mX ?_; try simp only [go_sem]) | refine kD ?_ | refine cP (zI c (by omega)) ?_ | refine cP (zJ l (by omega)) ?_ | refine cP (a3Z q (by omega)) ?_ | refine cP hk ?_ | refine aO ?_ | fail)
  have qH := aI @gq (aI @h1 (aI @h2 (aI @k1 (aI @k2 (aI @k3 (aI @Bool.true_beq @Bool.false_beq)))))); repeat' (with_reducible first | refine nY ?_ | (refine mX ?_; try simp only [go_sem, qH]) | refine kD ?_ | refine rD ?_ | refine vO (vF c (by omega)) ?_ | refine vQ (vF c (by omega)) ?_ | refine vO (vH l (by omega)) ?_ | refine vQ (vH l (by omega)) ?_ | refine vO (yM q (by omega)) ?_ | refine vQ (yM q (by omega)) ?_ | refine vO hi ?_ | refine vQ hi ?_ | refine vO (oG X hX) ?_ | refine vQ (oG X hX) ?_ | refine vO (a4u Y (by omega)) ?_ | refine vQ (a4u Y (by omega)) ?_ | refine vO (oG c (by omega)) ?_ | refine vQ (oG c (by omega)) ?_ | refine vO (a1g l (by omega)) ?_ | refine vQ (a1g l (by omega)) ?_ | refine vO (sS q (by omega)) ?_ | refine vQ (sS q (by omega)) ?_ | refine vM (xM c _ (by omega)) ?_ | refine vM (a4s l _ (by omega)) ?_ | refine vM (qR q _ (by omega)) ?_ | refine vM (xM X _ (by omega)) ?_ | refine vM (a7p Y _ (by omega)) ?_ | refine vO (xN X 1 (by omega)) ?_ | refine vQ (xN X 1 (by omega)) ?_ | refine vO (a1d Y ((1 : Int) + (csum cnField X.fStore.fSchema : Nat) + (csum cnFile X.fStore.fFiles : Nat) + (csum cnDir X.fDirs : Nat) + (csum cnResult X.fResults : Nat)) (by omega)) ?_ | refine vQ (a1d Y ((1 : Int) + (csum cnField X.fStore.fSchema : Nat) + (csum cnFile X.fStore.fFiles : Nat) + (csum cnDir X.fDirs : Nat) + (csum cnResult X.fResults : Nat)) (by omega)) ?_ | refine cP (zI c (by omega)) ?_ | refine cP (zJ l (by omega)) ?_ | refine cP (a3Z q (by omega)) ?_ | refine aO ?_ | fail)
  exact aA ⟨⟨_, rfl, by simp only [go_sem]⟩, trivial⟩
end Go.Proofs.YteaaopodnbjpoaaGreat
end
