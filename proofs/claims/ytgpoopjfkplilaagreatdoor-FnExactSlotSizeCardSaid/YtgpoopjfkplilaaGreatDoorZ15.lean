/- Joined texts. -/
import Derived.Test.YtgpoopjfkplilaaGreatDoorZ11
import Derived.Test.YtgpoopjfkplilaaGreatDoorZ14
import Derived.Test.YtgpoopjfkplilaaGreatDoorZ13
import Derived.Test.YtgpoopjfkplilaaGreatDoorZ08
import Derived.Test.YtgpoopjfkplilaaGreatDoorZ01
import Derived.Lib.AtoiErrMem
set_option linter.all false
section
set_option maxRecDepth 100000
set_option maxHeartbeats 4000000
namespace Go.Proofs.YtgpoopjfkplilaaGreatDoor
open Go Go.Sx Go.RowKit Go.Proofs
def fdT (f : TField) : ByteArray := if aQ f.fName 1 then (if f.fKind = 1 then (⟨#[102, 105, 101, 108, 100, 32]⟩ : ByteArray) ++ f.fName ++ ⟨#[32, 105, 110, 116]⟩ else if f.fKind = 2 then (⟨#[102, 105, 101, 108, 100, 32]⟩ : ByteArray) ++ f.fName ++ ⟨#[32, 115, 116, 114, 105, 110, 103]⟩ else ⟨#[]⟩) else ⟨#[]⟩
theorem b2v (f : TField) : (fdT f).size ≤ 13 + f.fName.size := by
 have e1 : (⟨#[102, 105, 101, 108, 100, 32]⟩ : ByteArray).size = 6 := rfl
 have e2 : (⟨#[32, 105, 110, 116]⟩ : ByteArray).size = 4 := rfl
 have e3 : (⟨#[32, 115, 116, 114, 105, 110, 103]⟩ : ByteArray).size = 7 := rfl
 have e4 : (⟨#[]⟩ : ByteArray).size = 0 := rfl
 unfold fdT
 split
 ·split
  ·simp only [ByteArray.size_append]; omega
  ·split
   ·simp only [ByteArray.size_append]; omega
   ·omega
 ·omega
theorem a5s (f : TField) (hs : f.fName.size ≤ 4300000) : FnC Tryz.prog 48 [sH f] (os (fdT f)) := by
 have e1 : (⟨#[102, 105, 101, 108, 100, 32]⟩ : ByteArray).size = 6 := rfl
 have e2 : (⟨#[32, 105, 110, 116]⟩ : ByteArray).size = 4 := rfl
 have e3 : (⟨#[32, 115, 116, 114, 105, 110, 103]⟩ : ByteArray).size = 7 := rfl
 have m1 : (⟨#[102, 105, 101, 108, 100, 32]⟩ : ByteArray).size + f.fName.size ≤ maxLen := by unfold maxLen; omega
 have m2 : ((⟨#[102, 105, 101, 108, 100, 32]⟩ : ByteArray) ++ f.fName).size + (⟨#[32, 105, 110, 116]⟩ : ByteArray).size ≤ maxLen := by unfold maxLen; simp only [ByteArray.size_append]; omega
 have m3 : ((⟨#[102, 105, 101, 108, 100, 32]⟩ : ByteArray) ++ f.fName).size + (⟨#[32, 115, 116, 114, 105, 110, 103]⟩ : ByteArray).size ≤ maxLen := by unfold maxLen; simp only [ByteArray.size_append]; omega
 refine ent Tryz.func48 rfl Tryz.call48 rfl (fun C => ?_); simp only [go_sem, st0, Tryz.ntmps48]
 cases h0 : aQ f.fName 1
 ·have q0 := @h0; refine iX (aB f.fName) ?_
  exact aA ⟨⟨_, rfl, by simp only [go_sem, fdT, h0, if_false, Bool.false_eq_true]⟩, trivial⟩
 by_cases h1 : f.fKind = 1
 ·have q0 := @h0; have q1 := @h1; have q2 := @decide_true; have q3 := @m1; have q4 := @m2; refine qD (aB f.fName) ?_
  exact aA ⟨⟨_, rfl, by simp only [go_sem, fdT, h0, h1, if_true]⟩, trivial⟩
 by_cases h2 : f.fKind = 2
 ·have q0 := @h0; have q1 := @h1; have q2 := @h2; have q3 := @decide_true; have q4 := @decide_false; have q5 := @m1; have q6 := @m3; refine a5V (aB f.fName) ?_
  exact aA ⟨⟨_, rfl, by simp only [go_sem, fdT, h0, h1, h2, if_true, if_false]⟩, trivial⟩
 ·have q0 := @h0; have q1 := @h1; have q2 := @h2; have q3 := @decide_true; have q4 := @decide_false; refine qD (aB f.fName) ?_
  exact aA ⟨⟨_, rfl, by simp only [go_sem, fdT, h0, h1, h2, if_true, if_false]⟩, trivial⟩
theorem a5t (f : TField) (hs : f.fName.size ≤ 4300000) : FnC Tryz.prog 106 [sH f] (os (fdT f)) := by
 have e1 : (⟨#[102, 105, 101, 108, 100, 32]⟩ : ByteArray).size = 6 := rfl
 have e2 : (⟨#[32, 105, 110, 116]⟩ : ByteArray).size = 4 := rfl
 have e3 : (⟨#[32, 115, 116, 114, 105, 110, 103]⟩ : ByteArray).size = 7 := rfl
 have m1 : (⟨#[102, 105, 101, 108, 100, 32]⟩ : ByteArray).size + f.fName.size ≤ maxLen := by unfold maxLen; omega
 have m2 : ((⟨#[102, 105, 101, 108, 100, 32]⟩ : ByteArray) ++ f.fName).size + (⟨#[32, 105, 110, 116]⟩ : ByteArray).size ≤ maxLen := by unfold maxLen; simp only [ByteArray.size_append]; omega
 have m3 : ((⟨#[102, 105, 101, 108, 100, 32]⟩ : ByteArray) ++ f.fName).size + (⟨#[32, 115, 116, 114, 105, 110, 103]⟩ : ByteArray).size ≤ maxLen := by unfold maxLen; simp only [ByteArray.size_append]; omega
 refine ent Tryz.func106 rfl Tryz.call106 rfl (fun C => ?_); simp only [go_sem, st0, Tryz.ntmps106]
 cases h0 : aQ f.fName 1
 ·have q0 := @h0; refine iX (aG f.fName hs) ?_
  exact aA ⟨⟨_, rfl, by simp only [go_sem, fdT, h0, if_false, Bool.false_eq_true]⟩, trivial⟩
 by_cases h1 : f.fKind = 1
 ·have q0 := @h0; have q1 := @h1; have q2 := @decide_true; have q3 := @m1; have q4 := @m2; refine qD (aG f.fName hs) ?_
  exact aA ⟨⟨_, rfl, by simp only [go_sem, fdT, h0, h1, if_true]⟩, trivial⟩
 by_cases h2 : f.fKind = 2
 ·have q0 := @h0; have q1 := @h1; have q2 := @h2; have q3 := @decide_true; have q4 := @decide_false; have q5 := @m1; have q6 := @m3; refine a5V (aG f.fName hs) ?_
  exact aA ⟨⟨_, rfl, by simp only [go_sem, fdT, h0, h1, h2, if_true, if_false]⟩, trivial⟩
 ·have q0 := @h0; have q1 := @h1; have q2 := @h2; have q3 := @decide_true; have q4 := @decide_false; refine qD (aG f.fName hs) ?_
  exact aA ⟨⟨_, rfl, by simp only [go_sem, fdT, h0, h1, h2, if_true, if_false]⟩, trivial⟩
def drT (d : TDir) : ByteArray := (⟨#[100, 105, 114, 32]⟩ : ByteArray) ++ d.fName ++ ⟨#[32]⟩ ++ qtx d.fQuery
def nxT (n : Int) : ByteArray := (⟨#[110, 101, 120, 116, 32]⟩ : ByteArray) ++ itoaB n
def lnA (x : TSnapshot) : List ByteArray := x.fStore.fSchema.map fdT
def lnB (x : TSnapshot) : List ByteArray := lnA x ++ [nxT x.fStore.fNextID]
def lnC (x : TSnapshot) : List ByteArray := lnB x ++ x.fStore.fFiles.map jW
noncomputable def lnX (x : TSnapshot) : List ByteArray := if eY x then lnC x ++ x.fDirs.map drT else []
theorem qG {α β : Type} (f : α → β) (l : List α) (k : Nat) (h : k < l.length) : (l.take (k + 1)).map f = (l.take k).map f ++ [f l[k]] := by
 rw [List.take_succ_eq_append_getElem h, List.map_append]; rfl
structure SmX (x : TSnapshot) : Prop where
 wf : lT x
 sm : aK x ≤ 1048576
theorem SmX.lens {x : TSnapshot} (h : SmX x) : x.fStore.fSchema.length + x.fStore.fFiles.length + x.fDirs.length ≤ 1048576 := by
 have := h.sm
 unfold aK dC aP fF fK at this
 omega
theorem SmX.field {x : TSnapshot} (h : SmX x) {k : Nat} (hk : k < x.fStore.fSchema.length) : x.fStore.fSchema[k].fName.size ≤ 4300000 := by
 have h1 := h.sm
 have h2 := dB wField x.fStore.fSchema hk
 unfold aK dC aP at h1
 have e : wField x.fStore.fSchema[k] = x.fStore.fSchema[k].fName.size := rfl
 omega
theorem SmX.file {x : TSnapshot} (h : SmX x) {k : Nat} (hk : k < x.fStore.fFiles.length) : wFile x.fStore.fFiles[k] ≤ 1048576 ∧ mP x.fStore.fFiles[k] := by
 have h1 := h.sm
 have h2 := dB wFile x.fStore.fFiles hk
 unfold aK dC fF at h1
 exact ⟨by omega, h.wf.1.2.1.2 _ (List.getElem_mem hk)⟩
theorem SmX.dir {x : TSnapshot} (h : SmX x) {k : Nat} (hk : k < x.fDirs.length) : x.fDirs[k].fName.size ≤ 1048576 ∧ wNodeS x.fDirs[k].fQuery ≤ 1048576 ∧ ∀ n ∈ x.fDirs[k].fQuery, inR .i64 n.fValue.fInt := by
 have h1 := h.sm
 have h2 := dB wDir x.fDirs hk
 unfold aK fK at h1
 have e : wDir x.fDirs[k] = x.fDirs[k].fName.size + wNodeS x.fDirs[k].fQuery := rfl
 exact ⟨by omega, by omega, fun n hn => ((h.wf.2.2 _ (List.getElem_mem hk)).2.2 n hn).2.2.2.2.2.1⟩
theorem a2d (x : TSnapshot) (hx : SmX x) : FnC Tryz.prog 21 [dZ x] (.o (.w 9 1 ((lnX x).map bN))) := by
 have hl := hx.lens
 have la : (lnA x).length = x.fStore.fSchema.length := by simp [lnA]
 have lb : (lnB x).length = x.fStore.fSchema.length + 1 := by simp [lnB, la]
 have lc : (lnC x).length = x.fStore.fSchema.length + 1 + x.fStore.fFiles.length := by simp [lnC, lb]
 have hb : lnA x ++ [nxT x.fStore.fNextID] = lnB x := rfl
 have hc : lnB x ++ x.fStore.fFiles.map jW = lnC x := rfl
 have ha : x.fStore.fSchema.map fdT = lnA x := rfl
 have cn := eO x.fStore.fNextID hx.wf.1.2.2
 have zn := dM x.fStore.fNextID hx.wf.1.2.2
 have e1 : (⟨#[110, 101, 120, 116, 32]⟩ : ByteArray).size = 5 := rfl
 have mn : (⟨#[110, 101, 120, 116, 32]⟩ : ByteArray).size + (itoaB x.fStore.fNextID).size ≤ maxLen := by unfold maxLen; omega
 have en : (⟨#[110, 101, 120, 116, 32]⟩ : ByteArray) ++ itoaB x.fStore.fNextID = nxT x.fStore.fNextID := rfl
 have g1 : (lnA x).length + 1 ≤ 140737488355328 := by omega
 have g2 : ((lnA x).length + 1) * 16 ≤ 140737488355328 := by omega
 have cf : ∀ (k : Nat) (h : k < x.fStore.fSchema.length), FnC Tryz.prog 48 [sH x.fStore.fSchema[k]] (os (fdT x.fStore.fSchema[k])) := fun k h => a5s _ (hx.field h)
 have cg : ∀ (k : Nat) (h : k < x.fStore.fFiles.length), FnC Tryz.prog 50 [wK x.fStore.fFiles[k]] (os (jW x.fStore.fFiles[k])) := fun k h => yI _ (hx.file h).2 (hx.file h).1
 have cd : ∀ (k : Nat) (h : k < x.fDirs.length), FnC Tryz.prog 51 [.o (.d (.sl (x.fDirs[k].fQuery.map bE)))] (os (qtx x.fDirs[k].fQuery)) := fun k h => wY _ (hx.dir h).2.1 (hx.dir h).2.2
 refine ent Tryz.func21 rfl Tryz.call21 rfl (fun C => ?_); simp only [go_sem, st0, Tryz.ntmps21]
 cases h0 : eY x
 ·have fin : lnX x = [] := by unfold lnX; rw [h0]; rfl
  have q0 := @h0; refine iX (kN x hx.sm) ?_
  exact aA ⟨⟨_, rfl, by simp only [go_sem, fin]⟩, trivial⟩
 have fin : lnC x ++ x.fDirs.map drT = lnX x := by unfold lnX; rw [h0]; rfl
 have q0 := @h0; refine iX (kN x hx.sm) ?_
 refine bD (α := Nat) (fun k => [(3, .o (.s 1)), (13, .o .u), (18, oi k)]) (fun k => [(1, .row 9 1 (((x.fStore.fSchema.take k).map fdT).map bN) true)]) (fun k => k ≤ x.fStore.fSchema.length) (fun k => x.fStore.fSchema.length - k) 0 (fun _ => ?_) ?_ ?_ (fun k hk => ?_)
 ·simp only [go_sem]
 ·simp only [go_sem]; simp
 ·simp
 simp only [go_sem]
 refine aH ?_
 refine cnd rfl (fun h => ?_) (fun h => ?_)
 ·simp only [decide_eq_true_eq, Int.ofNat_lt] at h
  have hn := qG fdT x.fStore.fSchema k h
  have l1 : ((x.fStore.fSchema.take k).map fdT).length = k := by simp; omega
  have c := cf k h
  generalize (x.fStore.fSchema.take k).map fdT = l at *
  have q1 : l.length + 1 ≤ 140737488355328 := by omega
  have q2 : (l.length + 1) * 16 ≤ 140737488355328 := by omega
  have q0 := @h; have q1 := @q1; have q2 := @q2; have q3 := @bH; refine tQ c ?_
  refine aD (k + 1) ?_ ?_ ?_
  ·simp only [go_sem, hn, List.map_append]; simp [bN]
  ·exact h
  ·omega
 simp only [decide_eq_false_iff_not] at h
 have e : k = x.fStore.fSchema.length := by omega
 subst e
 rw [List.take_length, ha]
 have q0 := @mn; have q1 := @en; have q2 := @g1; have q3 := @g2; have q4 := @bH; refine qD cn ?_
 refine bD (α := Nat) (fun k => [(3, .o (.s 1)), (35, .o .u), (40, oi k)]) (fun k => [(1, .row 9 1 ((lnB x ++ (x.fStore.fFiles.take k).map jW).map bN) true)]) (fun k => k ≤ x.fStore.fFiles.length) (fun k => x.fStore.fFiles.length - k) 0 (fun _ => ?_) ?_ ?_ (fun k hk => ?_)
 ·simp only [go_sem]
 ·simp only [go_sem, ← hb, List.map_append]; simp [bN]
 ·simp
 simp only [go_sem]
 refine aH ?_
 refine cnd rfl (fun h => ?_) (fun h => ?_)
 ·simp only [decide_eq_true_eq, Int.ofNat_lt] at h
  have hn := qG jW x.fStore.fFiles k h
  have l1 : (lnB x ++ (x.fStore.fFiles.take k).map jW).length = x.fStore.fSchema.length + 1 + k := by rw [List.length_append, lb]; simp; omega
  have hn2 : lnB x ++ (x.fStore.fFiles.take (k + 1)).map jW = (lnB x ++ (x.fStore.fFiles.take k).map jW) ++ [jW x.fStore.fFiles[k]] := by rw [hn, List.append_assoc]
  have c := cg k h
  generalize lnB x ++ (x.fStore.fFiles.take k).map jW = l at *
  have q1 : l.length + 1 ≤ 140737488355328 := by omega
  have q2 : (l.length + 1) * 16 ≤ 140737488355328 := by omega
  have q0 := @h; have q1 := @q1; have q2 := @q2; have q3 := @bH; refine tQ c ?_
  refine aD (k + 1) ?_ ?_ ?_
  ·simp only [go_sem, hn2]; rw [List.map_append]; simp [bN]
  ·exact h
  ·omega
 simp only [decide_eq_false_iff_not] at h
 have e : k = x.fStore.fFiles.length := by omega
 subst e
 rw [List.take_length, hc]
 refine aH ?_
 refine bD (α := Nat) (fun k => [(3, .o (.s 1)), (53, oi k)]) (fun k => [(1, .row 9 1 ((lnC x ++ (x.fDirs.take k).map drT).map bN) true)]) (fun k => k ≤ x.fDirs.length) (fun k => x.fDirs.length - k) 0 (fun _ => ?_) ?_ ?_ (fun k hk => ?_)
 ·simp only [go_sem]
 ·simp only [go_sem]; simp
 ·simp
 simp only [go_sem]
 refine aH ?_
 refine cnd rfl (fun h => ?_) (fun h => ?_)
 ·simp only [decide_eq_true_eq, Int.ofNat_lt] at h
  have hn := qG drT x.fDirs k h
  have l1 : (lnC x ++ (x.fDirs.take k).map drT).length = x.fStore.fSchema.length + 1 + x.fStore.fFiles.length + k := by rw [List.length_append, lc]; simp; omega
  have hn2 : lnC x ++ (x.fDirs.take (k + 1)).map drT = (lnC x ++ (x.fDirs.take k).map drT) ++ [drT x.fDirs[k]] := by rw [hn, List.append_assoc]
  have c := cd k h
  have hd := hx.dir h
  have zq := a2f x.fDirs[k].fQuery hd.2.2
  have z1 : (⟨#[100, 105, 114, 32]⟩ : ByteArray).size = 4 := rfl
  have z2 : (⟨#[32]⟩ : ByteArray).size = 1 := rfl
  have m1 : (⟨#[100, 105, 114, 32]⟩ : ByteArray).size + x.fDirs[k].fName.size ≤ maxLen := by unfold maxLen; omega
  have m2 : ((⟨#[100, 105, 114, 32]⟩ : ByteArray) ++ x.fDirs[k].fName).size + (⟨#[32]⟩ : ByteArray).size ≤ maxLen := by unfold maxLen; simp only [ByteArray.size_append]; omega
  have m3 : ((⟨#[100, 105, 114, 32]⟩ : ByteArray) ++ x.fDirs[k].fName ++ ⟨#[32]⟩).size + (qtx x.fDirs[k].fQuery).size ≤ maxLen := by unfold maxLen; simp only [ByteArray.size_append]; omega
  have ed : drT x.fDirs[k] = (⟨#[100, 105, 114, 32]⟩ : ByteArray) ++ x.fDirs[k].fName ++ ⟨#[32]⟩ ++ qtx x.fDirs[k].fQuery := rfl
  rw [ed] at hn2
  generalize lnC x ++ (x.fDirs.take k).map drT = l at *
  have q1 : l.length + 1 ≤ 140737488355328 := by omega
  have q2 : (l.length + 1) * 16 ≤ 140737488355328 := by omega
  have qH := aI @h (aI @q1 (aI @q2 (aI @m1 (aI @m2 (aI @m3 @bH))))); repeat' (with_reducible first | refine nY ?_ | (refine mX ?_; try simp only [go_sem, qH]) | refine kD ?_ | (apply rE [7,9,10,11] [11] [0,1,2,3,4,5,6] [0,1,2,3,4,5,6] ((.c 7 [8] [0,1,2,3,4,8] (.c 9 [] [0] (.c 10 [] [] (.c 11 [] [] .n .n) .n) .n) .n)) (by simp only [go_sem]; rfl) (by simp only [go_sem]; rfl) (by simp only [go_sem]; rfl) (by decide +kernel); (focus simp only [go_sem]; done)) | exact bY | refine bJ (uX ?_) ?_ | refine bK (aX ?_) ?_ | refine bL (aX ?_) ?_ | exact bI | exact oH | exact uB | refine rD ?_ | refine cP c ?_ | refine aO ?_ | fail)
  refine aD (k + 1) ?_ ?_ ?_
  ·simp only [go_sem, hn2]; rw [List.map_append]; simp [bN]
  ·exact h
  ·omega
 simp only [decide_eq_false_iff_not] at h
 have e : k = x.fDirs.length := by omega
 subst e
 rw [List.take_length, fin]
 refine aH ?_
 exact aA ⟨⟨_, rfl, by simp only [go_sem]⟩, trivial⟩
theorem a2e (x : TSnapshot) (hx : SmX x) : FnC Tryz.prog 58 [dZ x] (.o (.w 9 1 ((lnX x).map bN))) := by
 have hl := hx.lens
 have la : (lnA x).length = x.fStore.fSchema.length := by simp [lnA]
 have lb : (lnB x).length = x.fStore.fSchema.length + 1 := by simp [lnB, la]
 have lc : (lnC x).length = x.fStore.fSchema.length + 1 + x.fStore.fFiles.length := by simp [lnC, lb]
 have hb : lnA x ++ [nxT x.fStore.fNextID] = lnB x := rfl
 have hc : lnB x ++ x.fStore.fFiles.map jW = lnC x := rfl
 have ha : x.fStore.fSchema.map fdT = lnA x := rfl
 have cn := eP x.fStore.fNextID hx.wf.1.2.2
 have zn := dM x.fStore.fNextID hx.wf.1.2.2
 have e1 : (⟨#[110, 101, 120, 116, 32]⟩ : ByteArray).size = 5 := rfl
 have mn : (⟨#[110, 101, 120, 116, 32]⟩ : ByteArray).size + (itoaB x.fStore.fNextID).size ≤ maxLen := by unfold maxLen; omega
 have en : (⟨#[110, 101, 120, 116, 32]⟩ : ByteArray) ++ itoaB x.fStore.fNextID = nxT x.fStore.fNextID := rfl
 have g1 : (lnA x).length + 1 ≤ 140737488355328 := by omega
 have g2 : ((lnA x).length + 1) * 16 ≤ 140737488355328 := by omega
 have cf : ∀ (k : Nat) (h : k < x.fStore.fSchema.length), FnC Tryz.prog 106 [sH x.fStore.fSchema[k]] (os (fdT x.fStore.fSchema[k])) := fun k h => a5t _ (hx.field h)
 have cg : ∀ (k : Nat) (h : k < x.fStore.fFiles.length), FnC Tryz.prog 107 [wK x.fStore.fFiles[k]] (os (jW x.fStore.fFiles[k])) := fun k h => yJ _ (hx.file h).2 (hx.file h).1
 have cd : ∀ (k : Nat) (h : k < x.fDirs.length), FnC Tryz.prog 108 [.o (.d (.sl (x.fDirs[k].fQuery.map bE)))] (os (qtx x.fDirs[k].fQuery)) := fun k h => nT _ (hx.dir h).2.1 (hx.dir h).2.2
 refine ent Tryz.func58 rfl Tryz.call58 rfl (fun C => ?_); simp only [go_sem, st0, Tryz.ntmps58]
 cases h0 : eY x
 ·have fin : lnX x = [] := by unfold lnX; rw [h0]; rfl
  have q0 := @h0; refine iX (kP x hx.sm) ?_
  exact aA ⟨⟨_, rfl, by simp only [go_sem, fin]⟩, trivial⟩
 have fin : lnC x ++ x.fDirs.map drT = lnX x := by unfold lnX; rw [h0]; rfl
 have q0 := @h0; refine iX (kP x hx.sm) ?_
 refine bD (α := Nat) (fun k => [(3, .o (.s 1)), (7, .o .u), (4, oi k)]) (fun k => [(1, .row 9 1 (((x.fStore.fSchema.take k).map fdT).map bN) true)]) (fun k => k ≤ x.fStore.fSchema.length) (fun k => x.fStore.fSchema.length - k) 0 (fun _ => ?_) ?_ ?_ (fun k hk => ?_)
 ·simp only [go_sem]
 ·simp only [go_sem]; simp
 ·simp
 simp only [go_sem]
 refine aH ?_
 refine cnd rfl (fun h => ?_) (fun h => ?_)
 ·simp only [decide_eq_true_eq, Int.ofNat_lt] at h
  have hn := qG fdT x.fStore.fSchema k h
  have l1 : ((x.fStore.fSchema.take k).map fdT).length = k := by simp; omega
  have c := cf k h
  generalize (x.fStore.fSchema.take k).map fdT = l at *
  have q1 : l.length + 1 ≤ 140737488355328 := by omega
  have q2 : (l.length + 1) * 16 ≤ 140737488355328 := by omega
  have q0 := @h; have q1 := @q1; have q2 := @q2; have q3 := @bH; refine tQ c ?_
  refine aD (k + 1) ?_ ?_ ?_
  ·simp only [go_sem, hn, List.map_append]; simp [bN]
  ·exact h
  ·omega
 simp only [decide_eq_false_iff_not] at h
 have e : k = x.fStore.fSchema.length := by omega
 subst e
 rw [List.take_length, ha]
 have q0 := @mn; have q1 := @en; have q2 := @g1; have q3 := @g2; have q4 := @bH; refine qD cn ?_
 refine bD (α := Nat) (fun k => [(3, .o (.s 1)), (37, .o .u), (5, oi k)]) (fun k => [(1, .row 9 1 ((lnB x ++ (x.fStore.fFiles.take k).map jW).map bN) true)]) (fun k => k ≤ x.fStore.fFiles.length) (fun k => x.fStore.fFiles.length - k) 0 (fun _ => ?_) ?_ ?_ (fun k hk => ?_)
 ·simp only [go_sem]
 ·simp only [go_sem, ← hb, List.map_append]; simp [bN]
 ·simp
 simp only [go_sem]
 refine aH ?_
 refine cnd rfl (fun h => ?_) (fun h => ?_)
 ·simp only [decide_eq_true_eq, Int.ofNat_lt] at h
  have hn := qG jW x.fStore.fFiles k h
  have l1 : (lnB x ++ (x.fStore.fFiles.take k).map jW).length = x.fStore.fSchema.length + 1 + k := by rw [List.length_append, lb]; simp; omega
  have hn2 : lnB x ++ (x.fStore.fFiles.take (k + 1)).map jW = (lnB x ++ (x.fStore.fFiles.take k).map jW) ++ [jW x.fStore.fFiles[k]] := by rw [hn, List.append_assoc]
  have c := cg k h
  generalize lnB x ++ (x.fStore.fFiles.take k).map jW = l at *
  have q1 : l.length + 1 ≤ 140737488355328 := by omega
  have q2 : (l.length + 1) * 16 ≤ 140737488355328 := by omega
  have q0 := @h; have q1 := @q1; have q2 := @q2; have q3 := @bH; refine tQ c ?_
  refine aD (k + 1) ?_ ?_ ?_
  ·simp only [go_sem, hn2]; rw [List.map_append]; simp [bN]
  ·exact h
  ·omega
 simp only [decide_eq_false_iff_not] at h
 have e : k = x.fStore.fFiles.length := by omega
 subst e
 rw [List.take_length, hc]
 refine aH ?_
 refine bD (α := Nat) (fun k => [(3, .o (.s 1)), (6, oi k)]) (fun k => [(1, .row 9 1 ((lnC x ++ (x.fDirs.take k).map drT).map bN) true)]) (fun k => k ≤ x.fDirs.length) (fun k => x.fDirs.length - k) 0 (fun _ => ?_) ?_ ?_ (fun k hk => ?_)
 ·simp only [go_sem]
 ·simp only [go_sem]; simp
 ·simp
 simp only [go_sem]
 refine aH ?_
 refine cnd rfl (fun h => ?_) (fun h => ?_)
 ·simp only [decide_eq_true_eq, Int.ofNat_lt] at h
  have hn := qG drT x.fDirs k h
  have l1 : (lnC x ++ (x.fDirs.take k).map drT).length = x.fStore.fSchema.length + 1 + x.fStore.fFiles.length + k := by rw [List.length_append, lc]; simp; omega
  have hn2 : lnC x ++ (x.fDirs.take (k + 1)).map drT = (lnC x ++ (x.fDirs.take k).map drT) ++ [drT x.fDirs[k]] := by rw [hn, List.append_assoc]
  have c := cd k h
  have hd := hx.dir h
  have zq := a2f x.fDirs[k].fQuery hd.2.2
  have z1 : (⟨#[100, 105, 114, 32]⟩ : ByteArray).size = 4 := rfl
  have z2 : (⟨#[32]⟩ : ByteArray).size = 1 := rfl
  have m1 : (⟨#[100, 105, 114, 32]⟩ : ByteArray).size + x.fDirs[k].fName.size ≤ maxLen := by unfold maxLen; omega
  have m2 : ((⟨#[100, 105, 114, 32]⟩ : ByteArray) ++ x.fDirs[k].fName).size + (⟨#[32]⟩ : ByteArray).size ≤ maxLen := by unfold maxLen; simp only [ByteArray.size_append]; omega
  have m3 : ((⟨#[100, 105, 114, 32]⟩ : ByteArray) ++ x.fDirs[k].fName ++ ⟨#[32]⟩).size + (qtx x.fDirs[k].fQuery).size ≤ maxLen := by unfold maxLen; simp only [ByteArray.size_append]; omega
  have ed : drT x.fDirs[k] = (⟨#[100, 105, 114, 32]⟩ : ByteArray) ++ x.fDirs[k].fName ++ ⟨#[32]⟩ ++ qtx x.fDirs[k].fQuery := rfl
  rw [ed] at hn2
  generalize lnC x ++ (x.fDirs.take k).map drT = l at *
  have q1 : l.length + 1 ≤ 140737488355328 := by omega
  have q2 : (l.length + 1) * 16 ≤ 140737488355328 := by omega
  have qH := aI @h (aI @q1 (aI @q2 (aI @m1 (aI @m2 (aI @m3 @bH))))); repeat' (with_reducible first | refine nY ?_ | (refine mX ?_; try simp only [go_sem, qH]) | refine kD ?_ | (apply rE [15,17,18,19] [19] [0,1,2,3,4,5,6,7,8,9,10,11,12,13,14] [0,1,2,3,4,5,6,7,8,9,10,11,12,13,14] ((.c 15 [16] [0,1,2,3,4,5,6,7,8,16] (.c 17 [] [0,1,2,3,4] (.c 18 [] [1,2,3,4] (.c 19 [] [] .n .n) .n) .n) .n)) (by simp only [go_sem]; rfl) (by simp only [go_sem]; rfl) (by simp only [go_sem]; rfl) (by decide +kernel); (focus simp only [go_sem]; done)) | exact bY | refine bJ (uX ?_) ?_ | refine bK (aX ?_) ?_ | refine bL (aX ?_) ?_ | exact bI | exact oH | exact uB | refine rD ?_ | refine cP c ?_ | refine aO ?_ | fail)
  refine aD (k + 1) ?_ ?_ ?_
  ·simp only [go_sem, hn2]; rw [List.map_append]; simp [bN]
  ·exact h
  ·omega
 simp only [decide_eq_false_iff_not] at h
 have e : k = x.fDirs.length := by omega
 subst e
 rw [List.take_length, fin]
 refine aH ?_
 exact aA ⟨⟨_, rfl, by simp only [go_sem]⟩, trivial⟩
theorem a9W (x : TSnapshot) (hx : SmX x) : (lnX x).length ≤ 1048577 := by
 have hl := hx.lens
 unfold lnX
 split
 ·simp only [lnC, lnB, lnA, List.length_append, List.length_map, List.length_cons, List.length_nil]; omega
 ·simp
theorem a6I (x : TSnapshot) (hx : SmX x) : FnC Tryz.prog 21 [dZ x] (.o (.d (.sl ((lnX x).map bN)))) := (a2d x hx).pu (by simp only [go_sem, and_self])
theorem a6J (x : TSnapshot) (hx : SmX x) : FnC Tryz.prog 58 [dZ x] (.o (.d (.sl ((lnX x).map bN)))) := (a2e x hx).pu (by simp only [go_sem, and_self])
end Go.Proofs.YtgpoopjfkplilaaGreatDoor
end
section
set_option maxRecDepth 100000
namespace Go.Proofs.YtgpoopjfkplilaaGreatDoor
open Go Go.Sx Go.Wd Go.RowKit Go.Proofs
theorem a0T : ∀ (l m : List UInt8) (a n : Nat), Lib.decFrom a l = some n → Lib.decFrom a (l ++ m) = Lib.decFrom n m
 | [], m, a, n, h => by cases h; rfl
 | b :: l, m, a, n, h => by
  simp only [Lib.decFrom, List.cons_append] at h ⊢
  cases hd : Lib.digitVal b with
  | none => rw [hd] at h; cases h
  | some d => rw [hd] at h; exact a0T l m _ n h
theorem a6F {d : Nat} (h : d < 10) : Lib.digitVal (UInt8.ofNat (48 + d)) = some d := by
 have : (UInt8.ofNat (48 + d)).toNat = 48 + d := by rw [UInt8.toNat_ofNat']; omega
 unfold Lib.digitVal
 rw [this, if_pos (by omega)]
 congr 1; omega
theorem a5m : ∀ (n u : Nat), u ≤ n → Lib.decFrom 0 (pX u) = some u := by
 intro n
 induction n with
 | zero => intro u h; have : u = 0 := by omega
           subst this; rfl
 | succ n ih =>
  intro u h
  by_cases h0 : u = 0
  ·subst h0; rfl
  ·rw [vH h0, a0T _ _ _ _ (ih (u / 10) (by omega))]
   simp only [Lib.decFrom, a6F (Nat.mod_lt u (by omega : 0 < 10))]
   congr 1; omega
theorem a1V {n : Int} (h : 0 ≤ n) : Lib.itoa n = Lib.decDigits n.toNat := by
 unfold Lib.itoa
 rw [if_neg (by omega)]
theorem decDigits_digs (u : Nat) : Lib.decDigits u = if u = 0 then [48] else pX u := by
 unfold pX
 split
 ·rename_i h; subst h; simp [Lib.decDigits]
 ·rfl
theorem kT {n : Int} (h : 0 ≤ n) : Lib.decFrom 0 (Lib.itoa n) = some n.toNat := by
 rw [a1V h, decDigits_digs]
 split
 ·rename_i e; rw [e]; rfl
 ·exact a5m _ _ (Nat.le_refl _)
theorem a9Q {n : Int} (h : 0 ≤ n) : Lib.itoa n ≠ [] := by
 rw [a1V h, decDigits_digs]
 split
 ·simp
 ·rename_i e; rw [vH e]; simp
theorem wW {n : Int} (h : 0 ≤ n) : ∀ b ∈ Lib.itoa n, 48 ≤ b.toNat ∧ b.toNat ≤ 57 := by
 intro b hb
 obtain ⟨k, hk⟩ := List.getElem?_of_mem hb
 obtain ⟨d, hd⟩ := Lib.digit_of_decFrom _ _ _ (kT h) k b hk
 have := Lib.digitVal_eq hd
 omega
theorem iY (n : Int) : (itoaB n).data.toList = Lib.itoa n := by simp [itoaB]
theorem b1d {n m : Int} (hn : 0 ≤ n) (hm : 0 ≤ m) (h : itoaB n = itoaB m) : n = m := by
 have e : Lib.itoa n = Lib.itoa m := by rw [← iY, h, iY]
 have h1 := kT hn
 rw [e, kT hm] at h1
 have := Option.some.inj h1
 omega
theorem a6G {n : Int} (h : 0 ≤ n) (h2 : n ≤ 1000000000) : (itoaB n).size ≤ 10 := by
 have e : (itoaB n).size = (Lib.itoa n).length := rfl
 rw [e, a1V h, decDigits_digs]
 split
 ·simp
 ·exact yL 10 _ (by omega)
open Classical in
noncomputable def pU (s : ByteArray) : Int × Bool := if h : ∃ n : Int, (0 ≤ n ∧ n ≤ 1000000000) ∧ itoaB n = s then (Classical.choose h, true) else (0, false)
theorem nS {n : Int} {s : ByteArray} (h0 : 0 ≤ n) (h1 : n ≤ 1000000000) (h : itoaB n = s) : pU s = (n, true) := by
 have hx : ∃ n : Int, (0 ≤ n ∧ n ≤ 1000000000) ∧ itoaB n = s := ⟨n, ⟨h0, h1⟩, h⟩
 unfold pU
 rw [dif_pos hx]
 have hc := Classical.choose_spec hx
 rw [b1d hc.1.1 h0 (hc.2.trans h.symm)]
theorem a3U {s : ByteArray} (h : ∀ n : Int, 0 ≤ n → n ≤ 1000000000 → itoaB n ≠ s) : pU s = (0, false) := by
 unfold pU
 rw [dif_neg]
 rintro ⟨n, ⟨h0, h1⟩, h2⟩
 exact h n h0 h1 h2
theorem a9R (s : ByteArray) : 0 ≤ (pU s).1 ∧ (pU s).1 ≤ 1000000000 := by
 unfold pU
 split
 ·rename_i h; exact (Classical.choose_spec h).1
 ·simp
theorem a5n (s : ByteArray) : inR .i64 (pU s).1 := by
 have := a9R s
 unfold inR; simp only; omega
theorem b5Q {s : ByteArray} (h : (pU s).2 = true) : itoaB (pU s).1 = s := by
 unfold pU at h ⊢
 split
 ·rename_i hx; exact (Classical.choose_spec hx).2
 ·rename_i hx; rw [dif_neg hx] at h; cases h
theorem yA {s : ByteArray} {b : UInt8} (hb : b ∈ s.data.toList) (h : b.toNat < 48 ∨ 57 < b.toNat) : pU s = (0, false) := a3U fun n h0 _ e => by
 rw [← e, iY] at hb
 have := wW h0 b hb
 omega
def v0 : TValue := ⟨0, 0, ⟨#[]⟩⟩
noncomputable def pW (s : ByteArray) : TValue := if (pU s).2 then ⟨1, (pU s).1, ⟨#[]⟩⟩ else if s = ⟨#[45]⟩ then v0 else ⟨2, 0, s⟩
noncomputable def pV (s : ByteArray) : TValue × Bool := if dH (pW s) then (pW s, true) else (v0, false)
theorem a5o (s : ByteArray) : (pV s).1.fStr.size ≤ s.size := by
 have e0 : (⟨#[]⟩ : ByteArray).size = 0 := rfl
 have h : (pW s).fStr.size ≤ s.size := by
  unfold pW
  split
  ·simp only; omega
  ·split
   ·show v0.fStr.size ≤ _; simp only [v0]; omega
   ·exact Nat.le_refl _
 unfold pV
 split
 ·exact h
 ·show v0.fStr.size ≤ _; simp only [v0]; omega
theorem b5A (s : ByteArray) : inR .i64 (pV s).1.fKind ∧ inR .i64 (pV s).1.fInt := by
 have h : inR .i64 (pW s).fKind ∧ inR .i64 (pW s).fInt := by
  unfold pW
  split
  ·exact ⟨by unfold inR; simp, a5n s⟩
  ·split <;> exact ⟨by unfold inR; simp [v0], by unfold inR; simp [v0]⟩
 unfold pV
 split
 ·exact h
 ·exact ⟨by unfold inR; simp [v0], by unfold inR; simp [v0]⟩
theorem a1W {s : ByteArray} {n : Int} (h : aQ s n = true) : s.data.toList ≠ [] ∧ ∀ b ∈ s.data.toList, 97 ≤ b.toNat ∧ b.toNat ≤ 122 := by
 unfold aQ inB lS at h
 simp only [Bool.and_eq_true, decide_eq_true_eq, List.all_eq_true, List.mem_range] at h
 obtain ⟨h1, h2, h3⟩ := h
 have hl : s.size = s.data.toList.length := rfl
 refine ⟨fun e => by have h0 : s.size = 0 := by rw [hl, e]; rfl
                     omega, fun b hb => ?_⟩
 obtain ⟨k, hk⟩ := List.getElem?_of_mem hb
 have hlt : k < s.size := by rw [hl]; exact (List.getElem?_eq_some_iff.1 hk).1
 have := h1 k hlt
 unfold low inB dA at this
 rw [List.getD_eq_getElem?_getD, hk] at this
 simp at this
 omega
theorem a8s {v : TValue} (h : dH v = true) (hk : v.fKind ≠ 0) : pV (fH v) = (v, true) := by
 obtain ⟨k, n, s⟩ := v
 have e : pW (fH ⟨k, n, s⟩) = ⟨k, n, s⟩ := by
  have h' := h
  unfold dH at h'
  simp only at h' hk
  rw [if_neg hk] at h'
  by_cases h1 : k = 1
  ·subst h1
   simp [inB] at h'
   obtain ⟨⟨a1, a2⟩, a3⟩ := h'
   have e : fH ⟨1, n, s⟩ = itoaB n := by simp [fH, h]
   have ep := nS a1 (by omega) (e.symm)
   unfold pW
   rw [ep, a3]; rfl
  ·rw [if_neg h1] at h'
   by_cases h2 : k = 2
   ·subst h2
    simp at h'
    obtain ⟨a1, a2⟩ := h'
    have e : fH ⟨2, n, s⟩ = s := by simp [fH, h]
    obtain ⟨b1, b2⟩ := a1W a1
    obtain ⟨b, hb⟩ : ∃ b, b ∈ s.data.toList := List.exists_mem_of_ne_nil _ b1
    have hb2 := b2 b hb
    have ep : pU s = (0, false) := yA hb (.inr (by omega))
    have hne : s ≠ ⟨#[45]⟩ := by
     rintro rfl
     simp at hb
     subst hb
     simp at hb2
    unfold pW
    rw [e, ep, a2]
    simp [hne]
   ·rw [if_neg h2] at h'; cases h'
 unfold pV
 rw [e, if_pos h]
def jU (w : ByteArray) : Int := if w = kw 1 then 1 else if w = kw 2 then 2 else if w = kw 3 then 3 else if w = kw 4 then 4 else if w = kw 5 then 5 else if w = kw 6 then 6 else if w = kw 7 then 7 else if w = kw 8 then 8 else if w = kw 9 then 9 else 0
theorem a9S : jU (kw 1) = 1 ∧ jU (kw 2) = 2 ∧ jU (kw 3) = 3 ∧ jU (kw 4) = 4 ∧ jU (kw 5) = 5 ∧ jU (kw 6) = 6 ∧ jU (kw 7) = 7 ∧ jU (kw 8) = 8 ∧ jU (kw 9) = 9 := by decide
theorem a9T (w : ByteArray) : 0 ≤ jU w ∧ jU w ≤ 9 := by
 unfold jU
 repeat' split
 all_goals omega
theorem yB : jU ⟨#[]⟩ = 0 := by decide
def hd (l : List ByteArray) : ByteArray := l.headD ⟨#[]⟩
noncomputable def nodeI : Nat → List ByteArray → List TNode → Bool × List ByteArray × List TNode
 | 0, fs, ns => (false, fs, ns)
 | k + 1, fs, ns =>
  let op := jU (hd fs)
  let f1 := fs.tail
  if op = 2 ∨ op = 8 ∨ op = 9 then (true, f1.tail, ns ++ [⟨op, 0, 0, hd f1, v0⟩])
  else if op = 3 ∨ op = 4 then ((pV (hd f1.tail)).2, f1.tail.tail, ns ++ [⟨op, 0, 0, hd f1, (pV (hd f1.tail)).1⟩])
  else if op = 5 then
   let r := nodeI k f1 ns
   (r.1, r.2.1, r.2.2 ++ [⟨5, (r.2.2.length : Int) - 1, 0, ⟨#[]⟩, v0⟩])
  else if op = 6 ∨ op = 7 then
   let r := nodeI k f1 ns
   if r.1 then
    let t := nodeI k r.2.1 r.2.2
    (t.1, t.2.1, t.2.2 ++ [⟨op, (r.2.2.length : Int) - 1, (t.2.2.length : Int) - 1, ⟨#[]⟩, v0⟩])
   else (false, r.2.1, r.2.2 ++ [⟨op, (r.2.2.length : Int) - 1, (r.2.2.length : Int) - 1, ⟨#[]⟩, v0⟩])
  else (decide (op ≠ 0), f1, ns ++ [⟨op, 0, 0, ⟨#[]⟩, v0⟩])
def part (p : List ByteArray) (i : Nat) : ByteArray := p.getD i ⟨#[]⟩
noncomputable def readS : Nat → List ByteArray → Nat → List TNode → Int → List TNode × Nat
 | 0, _, _, q, _ => (q, 0)
 | k + 1, p, i, q, deep =>
  let op := jU (part p i)
  if op = 0 ∨ 9 < deep ∨ 9 < q.length then (q, 0)
  else if op = 2 ∨ op = 8 ∨ op = 9 then (q ++ [⟨op, 0, 0, part p (i + 1), v0⟩], 2)
  else if op = 3 ∨ op = 4 then (q ++ [⟨op, 0, 0, part p (i + 1), (pV (part p (i + 2))).1⟩], 3)
  else if op = 5 then
   let r := readS k p (i + 1) q (deep + 1)
   if r.2 = 0 then (r.1, 0) else (r.1 ++ [⟨5, (r.1.length : Int) - 1, 0, ⟨#[]⟩, v0⟩], 1 + r.2)
  else if op = 6 ∨ op = 7 then
   let r := readS k p (i + 1) q (deep + 1)
   if r.2 = 0 then (r.1, 0) else
    let t := readS k p (i + (1 + r.2)) r.1 (deep + 1)
    if t.2 = 0 then (t.1, 0) else (t.1 ++ [⟨op, (r.1.length : Int) - 1, (t.1.length : Int) - 1, ⟨#[]⟩, v0⟩], 1 + r.2 + t.2)
  else (q ++ [⟨op, 0, 0, ⟨#[]⟩, v0⟩], 1)
def tk (q : List TNode) : Nat → Nat → List ByteArray
 | 0, _ => []
 | k + 1, i => match q[i]? with
  | none => []
  | some n =>
   if n.fOp = 2 ∨ n.fOp = 8 ∨ n.fOp = 9 then [kw n.fOp, n.fName]
   else if n.fOp = 3 ∨ n.fOp = 4 then [kw n.fOp, n.fName, fH n.fValue]
   else if n.fOp = 5 then kw 5 :: tk q k n.fLeft.toNat
   else if n.fOp = 6 ∨ n.fOp = 7 then kw n.fOp :: (tk q k n.fLeft.toNat ++ tk q k n.fRight.toNat)
   else [kw 1]
def po (q : List TNode) : Nat → Nat → Nat → List TNode
 | 0, _, _ => []
 | k + 1, i, o => match q[i]? with
  | none => []
  | some n =>
   if n.fOp = 5 then po q k n.fLeft.toNat o ++ [⟨5, ((o + (po q k n.fLeft.toNat o).length : Nat) : Int) - 1, 0, ⟨#[]⟩, v0⟩]
   else if n.fOp = 6 ∨ n.fOp = 7 then
    po q k n.fLeft.toNat o ++ po q k n.fRight.toNat (o + (po q k n.fLeft.toNat o).length) ++
     [⟨n.fOp, ((o + (po q k n.fLeft.toNat o).length : Nat) : Int) - 1, ((o + (po q k n.fLeft.toNat o).length + (po q k n.fRight.toNat (o + (po q k n.fLeft.toNat o).length)).length : Nat) : Int) - 1, ⟨#[]⟩, v0⟩]
   else [n]
theorem a9U {v : TValue} (h : eV v = true) : v = v0 := by
 obtain ⟨k, n, s⟩ := v
 unfold eV at h
 simp only [Bool.and_eq_true, decide_eq_true_eq] at h
 obtain ⟨rfl, rfl, rfl⟩ := h
 rfl
theorem a0m {n : TNode} (h : kI n = true) : n.fName = ⟨#[]⟩ ∧ n.fValue = v0 := by
 unfold kI at h
 simp only [Bool.and_eq_true, decide_eq_true_eq] at h
 exact ⟨h.1, a9U h.2⟩
theorem nE {n : TNode} (h : iK n = true) : n.fLeft = 0 ∧ n.fRight = 0 := by
 unfold iK at h
 simp only [Bool.and_eq_true, decide_eq_true_eq] at h
 exact h
theorem node_shape {n : TNode} {i : Nat} (h : bF n i = true) :
    (n.fOp = 1 ∧ n = ⟨1, 0, 0, ⟨#[]⟩, v0⟩) ∨
    ((n.fOp = 2 ∨ n.fOp = 8 ∨ n.fOp = 9) ∧ n = ⟨n.fOp, 0, 0, n.fName, v0⟩ ∧ aQ n.fName 6 = true) ∨
    ((n.fOp = 3 ∨ n.fOp = 4) ∧ n = ⟨n.fOp, 0, 0, n.fName, n.fValue⟩ ∧ dH n.fValue = true ∧ n.fValue.fKind ≠ 0 ∧ aQ n.fName 6 = true) ∨
    (n.fOp = 5 ∧ ∃ l : Nat, n.fLeft = l ∧ l < i) ∨
    ((n.fOp = 6 ∨ n.fOp = 7) ∧ ∃ l m : Nat, n.fLeft = l ∧ l < i ∧ n.fRight = m ∧ m < i) := by
 have up : ∀ s : ByteArray, aQ s 1 = true → aQ s 6 = true := fun s h => by
  unfold aQ inB at h ⊢
  simp only [Bool.and_eq_true, decide_eq_true_eq] at h ⊢
  exact ⟨h.1, h.2.1, by omega⟩
 have hop := nL h
 have h0 := h
 unfold bF at h
 rcases hop with o | o | o | o | o | o | o | o | o
 ·simp [o] at h
  obtain ⟨a1, a2⟩ := nE h.1
  obtain ⟨b1, b2⟩ := a0m h.2
  exact .inl ⟨o, by obtain ⟨_, _, _, _, _⟩ := n; simp only at o a1 a2 b1 b2; rw [o, a1, a2, b1, b2]⟩
 ·simp [o] at h
  obtain ⟨a1, a2⟩ := nE h.2.1
  have b2 := a9U h.2.2
  exact .inr (.inl ⟨.inl o, by obtain ⟨_, _, _, _, _⟩ := n; simp only at a1 a2 b2 ⊢; rw [a1, a2, b2], up _ h.1⟩)
 ·simp [o] at h
  obtain ⟨a1, a2⟩ := nE h.2.2.2
  exact .inr (.inr (.inl ⟨.inl o, by obtain ⟨_, _, _, _, _⟩ := n; simp only at a1 a2 ⊢; rw [a1, a2], h.2.1, h.2.2.1, up _ h.1⟩))
 ·simp [o] at h
  obtain ⟨a1, a2⟩ := nE h.2.2.2
  exact .inr (.inr (.inl ⟨.inr o, by obtain ⟨_, _, _, _, _⟩ := n; simp only at a1 a2 ⊢; rw [a1, a2], h.2.1, by rw [h.2.2.1]; decide, up _ h.1⟩))
 ·obtain ⟨l, hl, hli⟩ := eT h0 (.inl o)
  exact .inr (.inr (.inr (.inl ⟨o, l, hl, hli⟩)))
 ·obtain ⟨l, hl, hli⟩ := eT h0 (.inr (.inl o))
  obtain ⟨m, hr2, hmi⟩ := gP h0 (.inl o)
  exact .inr (.inr (.inr (.inr ⟨.inl o, l, m, hl, hli, hr2, hmi⟩)))
 ·obtain ⟨l, hl, hli⟩ := eT h0 (.inr (.inr o))
  obtain ⟨m, hr2, hmi⟩ := gP h0 (.inr o)
  exact .inr (.inr (.inr (.inr ⟨.inr o, l, m, hl, hli, hr2, hmi⟩)))
 ·simp [o] at h
  obtain ⟨a1, a2⟩ := nE h.2.1
  have b2 := a9U h.2.2
  exact .inr (.inl ⟨.inr (.inl o), by obtain ⟨_, _, _, _, _⟩ := n; simp only at a1 a2 b2 ⊢; rw [a1, a2, b2], h.1⟩)
 ·simp [o] at h
  obtain ⟨a1, a2⟩ := nE h.2.1
  have b2 := a9U h.2.2
  exact .inr (.inl ⟨.inr (.inr o), by obtain ⟨_, _, _, _, _⟩ := n; simp only at a1 a2 b2 ⊢; rw [a1, a2, b2], h.1⟩)
def sz (q : List TNode) : Nat → Nat → Nat
 | 0, _ => 0
 | k + 1, i => match q[i]? with
  | none => 0
  | some n => if n.fOp = 5 then sz q k n.fLeft.toNat + 1 else if n.fOp = 6 ∨ n.fOp = 7 then sz q k n.fLeft.toNat + sz q k n.fRight.toNat + 1 else 1
theorem a0n (q : List TNode) : ∀ k i o, (po q k i o).length = sz q k i
 | 0, _, _ => rfl
 | k + 1, i, o => by
  unfold po sz
  split
  ·rfl
  ·split
   ·rw [List.length_append, a0n q k]; rfl
   ·split
    ·rw [List.length_append, List.length_append, a0n q k, a0n q k]; rfl
    ·rfl
theorem a8t {q : List TNode} {k i : Nat} (h : i < k) (hk : k ≤ q.length) : 1 ≤ sz q k i := by
 cases k with
 | zero => omega
 | succ k =>
  unfold sz
  rw [List.getElem?_eq_getElem (by omega)]
  simp only
  split
  ·omega
  ·split <;> omega
theorem a8u (q : List TNode) : ∀ k i, (tk q k i).length ≤ 2 * sz q k i + 1
 | 0, _ => by simp [tk]
 | k + 1, i => by
  unfold tk sz
  split
  ·simp
  ·rename_i n _
   have h1 := a8u q k n.fLeft.toNat
   have h2 := a8u q k n.fRight.toNat
   repeat' split
   all_goals
    simp only [List.length_cons, List.length_append, List.length_nil]
    omega
theorem a1X {q : List TNode} {k i : Nat} (h : i < k) (hk : k ≤ q.length) : tk q k i ≠ [] := by
 cases k with
 | zero => omega
 | succ k =>
  unfold tk
  rw [List.getElem?_eq_getElem (by omega)]
  simp only
  repeat' split
  all_goals simp
theorem a1Y {q : List TNode} (hv : okQ q = true) : ∀ k i, i < k → k ≤ q.length → ∀ F, k ≤ F → ∀ rest ns, nodeI F (tk q k i ++ rest) ns = (true, rest, ns ++ po q k i ns.length) := by
 intro k
 induction k with
 | zero => intro i hi; omega
 | succ k ih =>
  intro i hi hk F hF rest ns
  obtain ⟨F, rfl⟩ : ∃ F', F = F' + 1 := ⟨F - 1, by omega⟩
  have hlt : i < q.length := by omega
  have hn := List.getElem?_eq_getElem hlt
  have hok := oK hv hn
  generalize q[i] = n at hn hok
  obtain ⟨k1, k2, k3, k4, k5, k6, k7, k8, k9⟩ := a9S
  rcases node_shape hok with ⟨h, e⟩ | ⟨h, e, _⟩ | ⟨h, e, ev, ek, _⟩ | ⟨h, l, hl, hli⟩ | ⟨h, l, m, hl, hli, hm, hmi⟩
  ·have ht : tk q (k + 1) i = [kw 1] := by simp [tk, hn, h]
   have hp : po q (k + 1) i ns.length = [n] := by simp [po, hn, h]
   rw [ht, hp, e]
   unfold nodeI
   simp [hd, k1]
  ·have ht : tk q (k + 1) i = [kw n.fOp, n.fName] := by simp [tk, hn, h]
   have hp : po q (k + 1) i ns.length = [n] := by
    have h5 : n.fOp ≠ 5 := by omega
    have h6 : ¬ (n.fOp = 6 ∨ n.fOp = 7) := by omega
    simp [po, hn, h5, h6]
   rw [ht, hp]
   conv => rhs; rw [e]
   unfold nodeI
   rcases h with h | h | h <;> simp [hd, h, k2, k8, k9]
  ·have h2 : ¬ (n.fOp = 2 ∨ n.fOp = 8 ∨ n.fOp = 9) := by omega
   have ht : tk q (k + 1) i = [kw n.fOp, n.fName, fH n.fValue] := by simp [tk, hn, h, h2]
   have hp : po q (k + 1) i ns.length = [n] := by
    have h5 : n.fOp ≠ 5 := by omega
    have h6 : ¬ (n.fOp = 6 ∨ n.fOp = 7) := by omega
    simp [po, hn, h5, h6]
   have hpv := a8s ev ek
   rw [ht, hp]
   conv => rhs; rw [e]
   unfold nodeI
   rcases h with h | h <;> simp [hd, h, k3, k4, hpv]
  ·have ht : tk q (k + 1) i = kw 5 :: tk q k l := by simp [tk, hn, h, hl]
   have hp : po q (k + 1) i ns.length = po q k l ns.length ++ [⟨5, ((ns.length + (po q k l ns.length).length : Nat) : Int) - 1, 0, ⟨#[]⟩, v0⟩] := by simp [po, hn, h, hl]
   have h1 := ih l (by omega) (by omega) F (by omega) rest ns
   rw [ht, hp]
   unfold nodeI
   simp [hd, k5, h1]
  ·have h2 : ¬ (n.fOp = 2 ∨ n.fOp = 8 ∨ n.fOp = 9) := by omega
   have h3 : ¬ (n.fOp = 3 ∨ n.fOp = 4) := by omega
   have h5 : n.fOp ≠ 5 := by omega
   have ht : tk q (k + 1) i = kw n.fOp :: (tk q k l ++ tk q k m) := by simp [tk, hn, h, h2, h3, h5, hl, hm]
   have hp : po q (k + 1) i ns.length = po q k l ns.length ++ po q k m (ns.length + (po q k l ns.length).length) ++ [⟨n.fOp, ((ns.length + (po q k l ns.length).length : Nat) : Int) - 1, ((ns.length + (po q k l ns.length).length + (po q k m (ns.length + (po q k l ns.length).length)).length : Nat) : Int) - 1, ⟨#[]⟩, v0⟩] := by simp [po, hn, h, h5, hl, hm]
   have h1 := ih l (by omega) (by omega) F (by omega) (tk q k m ++ rest) ns
   have h4 := ih m (by omega) (by omega) F (by omega) rest (ns ++ po q k l ns.length)
   rw [ht, hp]
   unfold nodeI
   rw [List.length_append] at h4
   have ea : tk q k l ++ tk q k m ++ rest = tk q k l ++ (tk q k m ++ rest) := List.append_assoc ..
   rcases h with h | h <;> simp [hd, h, k6, k7, h1, h4] <;> omega
theorem vF (pre l : List ByteArray) (j : Nat) : part (pre ++ l) (pre.length + j) = part l j := by
 simp [part, List.getD_eq_getElem?_getD, List.getElem?_append_right]
theorem a1Z (pre l : List ByteArray) : part (pre ++ l) pre.length = part l 0 := vF pre l 0
theorem a6H {q : List TNode} (hv : okQ q = true) : ∀ k i, i < k → k ≤ q.length → ∀ K pre rest ns (deep : Int),
    readS K (pre ++ (tk q k i ++ rest)) pre.length ns deep = (ns ++ po q k i ns.length, (tk q k i).length) ∨
    (readS K (pre ++ (tk q k i ++ rest)) pre.length ns deep).2 = 0 ∧ ¬ (deep + K = 11 ∧ deep + i ≤ 9 ∧ ns.length + sz q k i ≤ 10) := by
 intro k
 induction k with
 | zero => intro i hi; omega
 | succ k ih =>
  intro i hi hk K pre rest ns deep
  cases K with
  | zero => exact .inr ⟨rfl, by omega⟩
  | succ K =>
  have hlt : i < q.length := by omega
  have hs := a8t hi hk
  have hn := List.getElem?_eq_getElem hlt
  have hok := oK hv hn
  generalize q[i] = n at hn hok
  by_cases hdeep : 9 < deep ∨ 9 < ns.length
  ·refine .inr ⟨?_, by omega⟩
   unfold readS
   rw [if_pos (.inr hdeep)]
  obtain ⟨k1, k2, k3, k4, k5, k6, k7, k8, k9⟩ := a9S
  rcases node_shape hok with ⟨h, e⟩ | ⟨h, e, _⟩ | ⟨h, e, ev, ek, _⟩ | ⟨h, l, hl, hli⟩ | ⟨h, l, m, hl, hli, hm, hmi⟩
  ·left
   have ht : tk q (k + 1) i = [kw 1] := by simp [tk, hn, h]
   have hp : po q (k + 1) i ns.length = [n] := by simp [po, hn, h]
   rw [ht, hp, e]
   have e0 : part (pre ++ ([kw 1] ++ rest)) pre.length = kw 1 := a1Z ..
   unfold readS
   simp only [e0, k1]
   simp [hdeep]
  ·left
   have ht : tk q (k + 1) i = [kw n.fOp, n.fName] := by simp [tk, hn, h]
   have hp : po q (k + 1) i ns.length = [n] := by
    have h5 : n.fOp ≠ 5 := by omega
    have h6 : ¬ (n.fOp = 6 ∨ n.fOp = 7) := by omega
    simp [po, hn, h5, h6]
   rw [ht, hp]
   have e0 : part (pre ++ ([kw n.fOp, n.fName] ++ rest)) pre.length = kw n.fOp := a1Z ..
   have e1 : part (pre ++ ([kw n.fOp, n.fName] ++ rest)) (pre.length + 1) = n.fName := vF ..
   conv => rhs; rw [e]
   unfold readS
   simp only [e0, e1]
   rcases h with h | h | h <;> simp [h, k2, k8, k9, hdeep]
  ·left
   have h2 : ¬ (n.fOp = 2 ∨ n.fOp = 8 ∨ n.fOp = 9) := by omega
   have ht : tk q (k + 1) i = [kw n.fOp, n.fName, fH n.fValue] := by simp [tk, hn, h, h2]
   have hp : po q (k + 1) i ns.length = [n] := by
    have h5 : n.fOp ≠ 5 := by omega
    have h6 : ¬ (n.fOp = 6 ∨ n.fOp = 7) := by omega
    simp [po, hn, h5, h6]
   have hpv := a8s ev ek
   rw [ht, hp]
   have e0 : part (pre ++ ([kw n.fOp, n.fName, fH n.fValue] ++ rest)) pre.length = kw n.fOp := a1Z ..
   have e1 : part (pre ++ ([kw n.fOp, n.fName, fH n.fValue] ++ rest)) (pre.length + 1) = n.fName := vF ..
   have e2 : part (pre ++ ([kw n.fOp, n.fName, fH n.fValue] ++ rest)) (pre.length + 2) = fH n.fValue := vF ..
   conv => rhs; rw [e]
   unfold readS
   simp only [e0, e1, e2]
   rcases h with h | h <;> simp [h, k3, k4, hpv, hdeep]
  ·have ht : tk q (k + 1) i = kw 5 :: tk q k l := by simp [tk, hn, h, hl]
   have hp : po q (k + 1) i ns.length = po q k l ns.length ++ [⟨5, ((ns.length + (po q k l ns.length).length : Nat) : Int) - 1, 0, ⟨#[]⟩, v0⟩] := by simp [po, hn, h, hl]
   have hsz : sz q (k + 1) i = sz q k l + 1 := by simp [sz, hn, h, hl]
   have h1 := ih l (by omega) (by omega) K (pre ++ [kw 5]) rest ns (deep + 1)
   have el : pre ++ [kw 5] ++ (tk q k l ++ rest) = pre ++ (kw 5 :: tk q k l ++ rest) := by simp
   have en : (pre ++ [kw 5]).length = pre.length + 1 := by simp
   rw [el, en] at h1
   rw [ht, hp, hsz]
   have e0 : part (pre ++ (kw 5 :: tk q k l ++ rest)) pre.length = kw 5 := a1Z ..
   have hne : (tk q k l).length ≠ 0 := by
    have := a1X (q := q) (k := k) (i := l) (by omega) (by omega)
    simpa using this
   unfold readS
   simp only [e0, k5]
   generalize pre ++ (kw 5 :: tk q k l ++ rest) = p at *
   rcases h1 with h1 | ⟨h1, h1'⟩
   ·left
    simp [hdeep, h1, hne, Nat.add_comm]
   ·right
    refine ⟨by simp [hdeep, h1], by omega⟩
  ·have h2 : ¬ (n.fOp = 2 ∨ n.fOp = 8 ∨ n.fOp = 9) := by omega
   have h3 : ¬ (n.fOp = 3 ∨ n.fOp = 4) := by omega
   have h5 : n.fOp ≠ 5 := by omega
   have ht : tk q (k + 1) i = kw n.fOp :: (tk q k l ++ tk q k m) := by simp [tk, hn, h, h2, h3, h5, hl, hm]
   have hp : po q (k + 1) i ns.length = po q k l ns.length ++ po q k m (ns.length + (po q k l ns.length).length) ++ [⟨n.fOp, ((ns.length + (po q k l ns.length).length : Nat) : Int) - 1, ((ns.length + (po q k l ns.length).length + (po q k m (ns.length + (po q k l ns.length).length)).length : Nat) : Int) - 1, ⟨#[]⟩, v0⟩] := by simp [po, hn, h, h5, hl, hm]
   have hsz : sz q (k + 1) i = sz q k l + sz q k m + 1 := by simp [sz, hn, h, h5, hl, hm]
   have pl := a0n q k l ns.length
   have s1 := a8t (q := q) (k := k) (i := l) (by omega) (by omega)
   have s2 := a8t (q := q) (k := k) (i := m) (by omega) (by omega)
   have h1 := ih l (by omega) (by omega) K (pre ++ [kw n.fOp]) (tk q k m ++ rest) ns (deep + 1)
   have h4 := ih m (by omega) (by omega) K (pre ++ [kw n.fOp] ++ tk q k l) rest (ns ++ po q k l ns.length) (deep + 1)
   have el : pre ++ [kw n.fOp] ++ (tk q k l ++ (tk q k m ++ rest)) = pre ++ (kw n.fOp :: (tk q k l ++ tk q k m) ++ rest) := by simp
   have el2 : pre ++ [kw n.fOp] ++ tk q k l ++ (tk q k m ++ rest) = pre ++ (kw n.fOp :: (tk q k l ++ tk q k m) ++ rest) := by simp
   have en : (pre ++ [kw n.fOp]).length = pre.length + 1 := by simp
   have en2 : (pre ++ [kw n.fOp] ++ tk q k l).length = pre.length + (1 + (tk q k l).length) := by simp; omega
   rw [el, en] at h1
   rw [el2, en2, List.length_append] at h4
   rw [ht, hp, hsz]
   have e0 : part (pre ++ (kw n.fOp :: (tk q k l ++ tk q k m) ++ rest)) pre.length = kw n.fOp := a1Z ..
   have hne : (tk q k l).length ≠ 0 := by
    have := a1X (q := q) (k := k) (i := l) (by omega) (by omega)
    simpa using this
   have hne2 : (tk q k m).length ≠ 0 := by
    have := a1X (q := q) (k := k) (i := m) (by omega) (by omega)
    simpa using this
   have hop : jU (kw n.fOp) = n.fOp := by rcases h with h | h <;> rw [h] <;> assumption
   have d0 : n.fOp ≠ 0 := by omega
   unfold readS
   simp only [e0, hop]
   generalize pre ++ (kw n.fOp :: (tk q k l ++ tk q k m) ++ rest) = p at *
   rw [if_neg (by omega), if_neg h2, if_neg h3, if_neg h5, if_pos h]
   rcases h1 with h1 | ⟨h1, h1'⟩
   ·simp only [h1]
    rw [if_neg hne]
    rcases h4 with h4 | ⟨h4, h4'⟩
    ·left
     simp only [h4]
     rw [if_neg hne2]
     simp
     omega
    ·right
     refine ⟨by rw [if_pos h4], by omega⟩
   ·right
    refine ⟨by rw [if_pos h1], by omega⟩
end Go.Proofs.YtgpoopjfkplilaaGreatDoor
end
section
set_option maxRecDepth 100000
namespace Go.Proofs.YtgpoopjfkplilaaGreatDoor
open Go Go.Sx Go.Wd Go.RowKit Go.Proofs
def wd (w : ByteArray) : Prop := w.data.toList ≠ [] ∧ (∀ b ∈ w.data.toList, 33 ≤ b.toNat ∧ b.toNat ≤ 126) ∧ w.size ≤ 10
theorem a6D {o : Int} (h : 1 ≤ o ∧ o ≤ 9) : wd (kw o) := by
 rcases (by omega : o = 1 ∨ o = 2 ∨ o = 3 ∨ o = 4 ∨ o = 5 ∨ o = 6 ∨ o = 7 ∨ o = 8 ∨ o = 9) with rfl | rfl | rfl | rfl | rfl | rfl | rfl | rfl | rfl <;> exact ⟨by decide, by decide, by decide⟩
theorem a1v {s : ByteArray} (h : aQ s 6 = true) : wd s := by
 obtain ⟨h1, h2⟩ := a1W h
 have := jL h
 exact ⟨h1, fun b hb => by have := h2 b hb; omega, by omega⟩
theorem a6E {s : ByteArray} (h : aQ s 1 = true) : wd s := by
 obtain ⟨h1, h2⟩ := a1W h
 have := jL h
 exact ⟨h1, fun b hb => by have := h2 b hb; omega, by omega⟩
theorem xY {n : Int} (h0 : 0 ≤ n) (h1 : n ≤ 1000000000) : wd (itoaB n) := by
 refine ⟨by rw [iY]; exact a9Q h0, fun b hb => ?_, a6G h0 h1⟩
 rw [iY] at hb
 have := wW h0 b hb
 omega
theorem b2r {v : TValue} (h : dH v = true) (hk : v.fKind ≠ 0) : wd (fH v) := by
 have h' := h
 unfold dH at h'
 rw [if_neg hk] at h'
 by_cases h1 : v.fKind = 1
 ·simp [h1, inB] at h'
  have e : fH v = itoaB v.fInt := by simp [fH, h, h1]
  rw [e]
  exact xY h'.1.1 (by omega)
 ·rw [if_neg h1] at h'
  by_cases h2 : v.fKind = 2
  ·simp [h2] at h'
   have e : fH v = v.fStr := by simp [fH, h, h2]
   rw [e]
   exact a1v h'.1
  ·rw [if_neg h2] at h'; cases h'
theorem b2s {w : ByteArray} (h : wd w) : w.data.toList ≠ [] ∧ ∀ b ∈ w.data.toList, Lib.isSp b = false := by
 refine ⟨h.1, fun b hb => ?_⟩
 have h1 := h.2.1 b hb
 unfold Lib.isSp
 simp only [Bool.or_eq_false_iff, beq_eq_false_iff_ne]
 have key : ∀ n : Nat, n < 33 → b ≠ UInt8.ofNat n := fun n hn e => by
  rw [e, UInt8.toNat_ofNat'] at h1; omega
 exact ⟨⟨⟨⟨⟨key 9 (by omega), key 10 (by omega)⟩, key 11 (by omega)⟩, key 12 (by omega)⟩, key 13 (by omega)⟩, key 32 (by omega)⟩
theorem b4o {w : ByteArray} (h : wd w) : (32 : UInt8) ∉ w.data.toList := fun hm => by
 have := (h.2.1 _ hm).1
 simp at this
theorem mW (w : ByteArray) : cat 32 [w] = w := by
 apply mM; unfold cat; rw [List.map_cons, List.map_nil, Lib.join_one]
theorem gG (w : ByteArray) {ws : List ByteArray} (h : ws ≠ []) : cat 32 (w :: ws) = w ++ ⟨#[32]⟩ ++ cat 32 ws := by
 cases ws with
 | nil => exact absurd rfl h
 | cons y r =>
  apply mM
  unfold cat
  rw [List.map_cons, List.map_cons, a2a]
  simp
theorem b4p {a b : List ByteArray} (ha : a ≠ []) (hb : b ≠ []) : cat 32 (a ++ b) = cat 32 a ++ ⟨#[32]⟩ ++ cat 32 b := by
 induction a with
 | nil => exact absurd rfl ha
 | cons x a ih =>
  cases a with
  | nil => rw [mW]; exact gG x hb
  | cons y a =>
   rw [List.cons_append, gG x (by simp), ih (by simp), gG x (by simp)]
   simp only [ByteArray.append_assoc]
theorem xZ {ws : List ByteArray} (h : ws ≠ []) : (cat 32 ws).size + 1 = zs ws := by
 induction ws with
 | nil => exact absurd rfl h
 | cons x a ih =>
  cases a with
  | nil => rw [mW, jJ, a5q]
  | cons y a =>
   have e : (⟨#[32]⟩ : ByteArray).size = 1 := rfl
   have := ih (by simp)
   rw [gG x (by simp), jJ]
   simp only [ByteArray.size_append]
   omega
theorem b1c {ws : List ByteArray} (h : ∀ w ∈ ws, wd w) : ∀ b ∈ (cat 32 ws).data.toList, 32 ≤ b.toNat ∧ b.toNat ≤ 126 := by
 induction ws with
 | nil => intro b hb; simp [cat, Lib.join_nil] at hb
 | cons x a ih =>
  have hx := (h x (by simp)).2.1
  cases a with
  | nil =>
   rw [mW]
   intro b hb
   have := hx b hb
   omega
  | cons y a =>
   rw [gG x (by simp)]
   intro b hb
   simp only [ByteArray.data_append, Array.toList_append, List.mem_append] at hb
   rcases hb with (hb | hb) | hb
   ·have := hx b hb; omega
   ·simp at hb; subst hb; decide
   ·exact ih (fun w hw => h w (List.mem_cons_of_mem _ hw)) b hb
theorem b7a {ws : List ByteArray} (h : ∀ w ∈ ws, wd w) : zs ws ≤ 11 * ws.length := by
 induction ws with
 | nil => simp [zs]
 | cons x a ih =>
  have h1 := (h x (by simp)).2.2
  have h2 := ih (fun w hw => h w (List.mem_cons_of_mem _ hw))
  rw [jJ, List.length_cons]; omega
def chB (s : ByteArray) (k : Nat) : Bool := inB (dA s k) 32 126
def wD (s : ByteArray) : Bool := (List.range s.size).all (chB s)
theorem b4q {s : ByteArray} (h : ∀ b ∈ s.data.toList, 32 ≤ b.toNat ∧ b.toNat ≤ 126) : wD s = true := by
 unfold wD
 rw [List.all_eq_true]
 intro k hk
 have hk : k < s.data.toList.length := by have := List.mem_range.1 hk; exact this
 have := h _ (List.getElem_mem hk)
 unfold chB inB dA
 rw [List.getD_eq_getElem?_getD, List.getElem?_eq_getElem hk]
 generalize s.data.toList[k] = b at *
 simp
 omega
theorem b4r {s : ByteArray} (h : wD s = true) {j : Nat} {b : UInt8} (hj : s.data.toList[j]? = some b) : 32 ≤ b.toNat ∧ b.toNat ≤ 126 := by
 unfold wD at h
 rw [List.all_eq_true] at h
 have hlt : j < s.size := (List.getElem?_eq_some_iff.1 hj).1
 have := h j (List.mem_range.2 hlt)
 unfold chB inB dA at this
 rw [List.getD_eq_getElem?_getD, hj] at this
 simp at this
 omega
def sfO (s : ByteArray) : Bool := decide (s.size ≤ 600) && wD s && decide ((flds s).length ≤ 24)
def sfL (s : ByteArray) : List ByteArray := if sfO s then flds s else []
theorem a5l {ws : List ByteArray} (h : ∀ w ∈ ws, wd w) (hl : ws.length ≤ 24) (h0 : ws ≠ []) : sfO (cat 32 ws) = true ∧ sfL (cat 32 ws) = ws := by
 have e := a2c ws (fun w hw => b2s (h w hw))
 have hc := b4q (b1c h)
 have hz := b7a h
 have hs := xZ h0
 have ho : sfO (cat 32 ws) = true := by
  unfold sfO
  rw [e, hc]
  simp
  omega
 exact ⟨ho, by unfold sfL; rw [ho, e]; rfl⟩
theorem a1T (s : ByteArray) : zs (sfL s) ≤ s.size + 1 := by
 unfold sfL
 split
 ·exact a0r s
 ·rw [a5q]; omega
theorem a1w (s : ByteArray) : (sfL s).length ≤ 24 ∧ zs (sfL s) ≤ 601 := by
 unfold sfL
 split
 ·rename_i h
  unfold sfO at h
  simp only [Bool.and_eq_true, decide_eq_true_eq] at h
  have := a0r s
  omega
 ·exact ⟨by simp, by rw [a5q]; omega⟩
theorem b7b {q : List TNode} (hv : okQ q = true) : ∀ k i, i < k → k ≤ q.length → ∀ w ∈ tk q k i, wd w := by
 intro k
 induction k with
 | zero => intro i hi; omega
 | succ k ih =>
  intro i hi hk
  have hlt : i < q.length := by omega
  have hn := List.getElem?_eq_getElem hlt
  have hok := oK hv hn
  generalize q[i] = n at hn hok
  rcases node_shape hok with ⟨h, e⟩ | ⟨h, e, et⟩ | ⟨h, e, ev, ek, et⟩ | ⟨h, l, hl, hli⟩ | ⟨h, l, m, hl, hli, hm, hmi⟩
  ·have ht : tk q (k + 1) i = [kw 1] := by simp [tk, hn, h]
   rw [ht]
   intro w hw
   rw [List.mem_singleton.1 hw]; exact a6D (by omega)
  ·have ht : tk q (k + 1) i = [kw n.fOp, n.fName] := by simp [tk, hn, h]
   rw [ht]
   intro w hw
   simp only [List.mem_cons, List.not_mem_nil, or_false] at hw
   rcases hw with rfl | rfl
   ·exact a6D (by omega)
   ·exact a1v et
  ·have h2 : ¬ (n.fOp = 2 ∨ n.fOp = 8 ∨ n.fOp = 9) := by omega
   have ht : tk q (k + 1) i = [kw n.fOp, n.fName, fH n.fValue] := by simp [tk, hn, h, h2]
   rw [ht]
   intro w hw
   simp only [List.mem_cons, List.not_mem_nil, or_false] at hw
   rcases hw with rfl | rfl | rfl
   ·exact a6D (by omega)
   ·exact a1v et
   ·exact b2r ev ek
  ·have ht : tk q (k + 1) i = kw 5 :: tk q k l := by simp [tk, hn, h, hl]
   rw [ht]
   intro w hw
   rcases List.mem_cons.1 hw with rfl | hw
   ·exact a6D (by omega)
   ·exact ih l (by omega) (by omega) w hw
  ·have h2 : ¬ (n.fOp = 2 ∨ n.fOp = 8 ∨ n.fOp = 9) := by omega
   have h3 : ¬ (n.fOp = 3 ∨ n.fOp = 4) := by omega
   have h5 : n.fOp ≠ 5 := by omega
   have ht : tk q (k + 1) i = kw n.fOp :: (tk q k l ++ tk q k m) := by simp [tk, hn, h, h2, h3, h5, hl, hm]
   rw [ht]
   intro w hw
   rcases List.mem_cons.1 hw with rfl | hw
   ·exact a6D (by omega)
   ·rcases List.mem_append.1 hw with hw | hw
    ·exact ih l (by omega) (by omega) w hw
    ·exact ih m (by omega) (by omega) w hw
theorem b7c {q : List TNode} (hv : okQ q = true) : ∀ k i, i < k → k ≤ q.length → qt q k i = cat 32 (tk q k i) := by
 intro k
 induction k with
 | zero => intro i hi; omega
 | succ k ih =>
  intro i hi hk
  have hlt : i < q.length := by omega
  have hn := List.getElem?_eq_getElem hlt
  have hok := oK hv hn
  generalize q[i] = n at hn hok
  rcases node_shape hok with ⟨h, e⟩ | ⟨h, e, et⟩ | ⟨h, e, ev, ek, et⟩ | ⟨h, l, hl, hli⟩ | ⟨h, l, m, hl, hli, hm, hmi⟩
  ·have ht : tk q (k + 1) i = [kw 1] := by simp [tk, hn, h]
   rw [ht, mW]
   simp [qt, hn, h]
  ·have ht : tk q (k + 1) i = [kw n.fOp, n.fName] := by simp [tk, hn, h]
   rw [ht, gG _ (by simp), mW]
   rcases h with h | h | h <;> simp [qt, hn, h]
  ·have h2 : ¬ (n.fOp = 2 ∨ n.fOp = 8 ∨ n.fOp = 9) := by omega
   have ht : tk q (k + 1) i = [kw n.fOp, n.fName, fH n.fValue] := by simp [tk, hn, h, h2]
   rw [ht, gG _ (by simp), gG _ (by simp), mW]
   rcases h with h | h <;> simp [qt, hn, h, ByteArray.append_assoc]
  ·have ht : tk q (k + 1) i = kw 5 :: tk q k l := by simp [tk, hn, h, hl]
   rw [ht, gG _ (a1X (by omega) (by omega)), ← ih l (by omega) (by omega)]
   simp [qt, hn, h, hl]
  ·have h2 : ¬ (n.fOp = 2 ∨ n.fOp = 8 ∨ n.fOp = 9) := by omega
   have h3 : ¬ (n.fOp = 3 ∨ n.fOp = 4) := by omega
   have h5 : n.fOp ≠ 5 := by omega
   have ht : tk q (k + 1) i = kw n.fOp :: (tk q k l ++ tk q k m) := by simp [tk, hn, h, h2, h3, h5, hl, hm]
   have n1 := a1X (q := q) (k := k) (i := l) (by omega) (by omega)
   have n2 := a1X (q := q) (k := k) (i := m) (by omega) (by omega)
   rw [ht, gG _ (by simp [n1]), b4p n1 n2, ← ih l (by omega) (by omega), ← ih m (by omega) (by omega)]
   rcases h with h | h <;> simp [qt, hn, h, hl, hm, ByteArray.append_assoc]
noncomputable def pQI (s : ByteArray) : List TNode × Bool :=
 let r := nodeI ((sfL s).length + 10) (sfL s) []
 if sfO s && (r.1 && (r.2.1.isEmpty && okQ r.2.2)) then (r.2.2, true) else ([], false)
noncomputable def pQS (s : ByteArray) : List TNode × Bool :=
 let r := readS 11 (sfL s) 0 [] 0
 if sfO s && (decide (r.2 = (sfL s).length) && (!decide (qtx r.1 = ⟨#[]⟩) && decide (qtx r.1 = cat 32 (sfL s)))) then (r.1, true) else ([], false)
def jT (q : List TNode) : List ByteArray := tk q q.length (q.length - 1)
theorem a1x {q : List TNode} (hv : okQ q = true) : jT q ≠ [] := by
 have := gD hv
 exact a1X (by omega) (Nat.le_refl _)
theorem tZ {q : List TNode} (hv : okQ q = true) : qtx q = cat 32 (jT q) := by
 have := gD hv
 unfold qtx
 rw [if_pos hv]
 exact b7c hv _ _ (by omega) (Nat.le_refl _)
theorem a9O {q : List TNode} (hv : okQ q = true) : ∀ w ∈ jT q, wd w := by
 have := gD hv
 exact b7b hv _ _ (by omega) (Nat.le_refl _)
theorem a1U {q : List TNode} (hv : okQ q = true) : flds (qtx q) = jT q := by
 rw [tZ hv]
 exact a2c _ (fun w hw => b2s (a9O hv w hw))
theorem b5O {q : List TNode} (hv : okQ q = true) : qtx q ≠ ⟨#[]⟩ := by
 intro e
 have h1 := a1U hv
 rw [e] at h1
 exact a1x hv (by rw [← h1]; rfl)
theorem a9P {q : List TNode} (hv : okQ q = true) : pQI (qtx q) = (q, true) ↔ pQS (qtx q) = (q, true) := by
 have hlen := gD hv
 have hf := a1U hv
 have hne := a1x hv
 have hl0 : (jT q).length ≠ 0 := by simpa using hne
 constructor
 ·intro h
  have ho : sfO (qtx q) = true := by
   cases ho : sfO (qtx q) with
   | true => rfl
   | false => unfold pQI at h; simp [ho] at h
  have hL : sfL (qtx q) = jT q := by unfold sfL; rw [ho, hf]; rfl
  have hn := a1Y hv q.length (q.length - 1) (by omega) (Nat.le_refl _) ((jT q).length + 10) (by omega) [] []
  rw [List.append_nil] at hn
  have hn : nodeI ((jT q).length + 10) (jT q) [] = _ := hn
  unfold pQI at h
  rw [hL, hn, ho] at h
  simp only [List.isEmpty_nil, Bool.true_and, List.nil_append, List.length_nil] at h
  have hR : po q q.length (q.length - 1) 0 = q := by
   split at h
   ·exact congrArg Prod.fst h
   ·cases h
  have hs : sz q q.length (q.length - 1) = q.length := by rw [← a0n q q.length (q.length - 1) 0, hR]
  have hr := a6H hv q.length (q.length - 1) (by omega) (Nat.le_refl _) 11 [] [] [] 0
  simp only [List.nil_append, List.append_nil, List.length_nil] at hr
  have hr1 : readS 11 (jT q) 0 [] 0 = (q, (jT q).length) := by
   rcases hr with hr | ⟨_, hr⟩
   ·rw [hR] at hr; exact hr
   ·exact absurd ⟨by omega, by omega, by omega⟩ hr
  unfold pQS
  rw [hL, hr1, ho]
  have h1 := b5O hv
  have h2 := tZ hv
  simp [h1, h2]
  rw [← h2]; exact h1
 ·intro h
  have ho : sfO (qtx q) = true := by
   cases ho : sfO (qtx q) with
   | true => rfl
   | false => unfold pQS at h; simp [ho] at h
  have hL : sfL (qtx q) = jT q := by unfold sfL; rw [ho, hf]; rfl
  have hr := a6H hv q.length (q.length - 1) (by omega) (Nat.le_refl _) 11 [] [] [] 0
  simp only [List.nil_append, List.append_nil, List.length_nil] at hr
  unfold pQS at h
  rw [hL, ho] at h
  have hr2 : readS 11 (jT q) 0 [] 0 = (q, (jT q).length) := by
   simp only [Bool.true_and] at h
   split at h
   ·rename_i hc
    simp only [Bool.and_eq_true, decide_eq_true_eq] at hc
    have h1 : (readS 11 (jT q) 0 [] 0).1 = q := congrArg Prod.fst h
    exact Prod.ext h1 hc.1
   ·cases h
  have hR : po q q.length (q.length - 1) 0 = q := by
   rcases hr with hr | ⟨hr, _⟩
   ·have hr : readS 11 (jT q) 0 [] 0 = _ := hr
    rw [hr2] at hr
    exact (congrArg Prod.fst hr).symm
   ·have hr : (readS 11 (jT q) 0 [] 0).2 = 0 := hr
    rw [hr2] at hr
    exact absurd hr hl0
  have hn := a1Y hv q.length (q.length - 1) (by omega) (Nat.le_refl _) ((jT q).length + 10) (by omega) [] []
  rw [List.append_nil] at hn
  have hn : nodeI ((jT q).length + 10) (jT q) [] = _ := hn
  unfold pQI
  rw [hL, hn, ho]
  simp [hR, hv]
theorem b5P {q : List TNode} (hv : okQ q = true) (h : pQI (qtx q) = (q, true)) : (jT q).length ≤ 19 := by
 have hlen := gD hv
 have hf := a1U hv
 have ho : sfO (qtx q) = true := by
  cases ho : sfO (qtx q) with
  | true => rfl
  | false => unfold pQI at h; simp [ho] at h
 have hL : sfL (qtx q) = jT q := by unfold sfL; rw [ho, hf]; rfl
 have hn := a1Y hv q.length (q.length - 1) (by omega) (Nat.le_refl _) ((jT q).length + 10) (by omega) [] []
 rw [List.append_nil] at hn
 have hn : nodeI ((jT q).length + 10) (jT q) [] = _ := hn
 unfold pQI at h
 rw [hL, hn, ho] at h
 simp only [List.isEmpty_nil, Bool.true_and, List.nil_append, List.length_nil] at h
 have hR : po q q.length (q.length - 1) 0 = q := by
  split at h
  ·exact congrArg Prod.fst h
  ·cases h
 have hs : sz q q.length (q.length - 1) = q.length := by rw [← a0n q q.length (q.length - 1) 0, hR]
 have := a8u q q.length (q.length - 1)
 unfold jT
 omega
end Go.Proofs.YtgpoopjfkplilaaGreatDoor
end
section
set_option maxRecDepth 100000
set_option maxHeartbeats 4000000
namespace Go.Proofs.YtgpoopjfkplilaaGreatDoor
open Go Go.Sx Go.Wd Go.RowKit Go.Proofs
theorem Done.strs {V : View} {w : World} (hm : Mod V w) (l : List ByteArray) (ty : Nat) (hl : l.length ≤ maxLen) : Done V w (.o (.w ty 1 (l.map bN))) (.slice (some ⟨w.heap.size, 0, none⟩) l.length l.length) (w.alloc (.cells (l.map Value.string).toArray ty)) := by
 have hsz : (w.alloc (.cells (l.map Value.string).toArray ty)).heap.size = w.heap.size + 1 := by simp only [World.alloc, Array.size_push]
 have hold : ∀ k, k < w.heap.size → (w.alloc (.cells (l.map Value.string).toArray ty)).heap[k]? = w.heap[k]? := fun k hk => by
  simp only [World.alloc]
  rw [Array.getElem?_push, if_neg (by omega)]
 have hnew : (w.alloc (.cells (l.map Value.string).toArray ty)).heap[w.heap.size]? = some (.cells (l.map Value.string).toArray ty (0, 0)) := by
  simp only [World.alloc]
  rw [Array.getElem?_push, if_pos rfl]
 have hV : V w.heap.size = none := by
  cases h : V w.heap.size with
  | none => rfl
  | some cs => have := hm.lt h; omega
 refine ⟨⟨V, [w.heap.size], View.le.refl V, ?_, (fun b cs h1 h2 => by rw [h1] at h2; cases h2), ?_, by simp, fun b hb => ?_⟩, ⟨rfl, rfl, rfl, by rw [hsz]; omega, fun k hk => hold k hk⟩⟩
 ·intro b cs hbc
  obtain ⟨c, t, fz, h1, h2⟩ := hm b cs hbc
  exact ⟨c, t, fz, by rw [← h1]; exact hold b (Array.getElem?_eq_some_iff.1 h1).1, h2⟩
 ·refine ⟨[.slice (some ⟨w.heap.size, 0, none⟩) l.length l.length], rfl, [[w.heap.size]], rfl, rfl, rfl, fun k a y s h1 h2 h3 => ?_⟩
  match k, h1, h2, h3 with
  | 0, rfl, rfl, rfl =>
   refine ⟨fun r hr => by obtain ⟨x, _, rfl⟩ := List.mem_map.1 hr; rfl, l.map Value.string, l.map fun _ => [], ?_, .inr ⟨w.heap.size, l.length, (l.map Value.string).toArray, by simp, by simp, hl, hnew, by simp, by simp, hV, ?_⟩⟩
   ·rw [a3W]
    refine ⟨by simp, by simp, fun k d y S e1 e2 e3 => ?_⟩
    rw [List.getElem?_map] at e1 e2 e3
    cases hk : l[k]? with
    | none => rw [hk] at e1; cases e1
    | some x =>
     rw [hk] at e1 e2 e3
     cases e1; cases e2; cases e3
     exact .v _ rfl
   ·have : (l.map fun _ => ([] : List Nat)).flatten = [] := by
     rw [List.flatten_eq_nil_iff]
     intro x hx
     obtain ⟨_, _, rfl⟩ := List.mem_map.1 hx
     rfl
    rw [this]
 ·rw [List.mem_singleton.1 hb, hsz]; omega
theorem b0Y {w : World} {X : List Nat} (h : tabOK w X) : ∃ m, w.cell? ⟨1, 0, none⟩ = some (.int .i64 m) := by
 obtain ⟨_, cs, ty, fz, h1, m, h2⟩ := h (1, fun cs => ∃ m, cs[0]? = some (.int .i64 m)) (by simp [b2Q, a7b])
 exact ⟨m, by unfold World.cell?; simp only; rw [h1]; simpa using h2⟩
theorem b4n {w : World} {X : List Nat} (h : tabOK w X) : ∃ te pe, w.cell? ⟨2, 0, none⟩ = some (.iface te pe) := by
 obtain ⟨_, cs, ty, fz, h1, te, pe, h2⟩ := h (2, fun cs => ∃ te pe, cs = #[.iface te pe]) (by simp [b2Q, a7b])
 have h2 : cs = _ := h2
 subst h2
 exact ⟨te, pe, by unfold World.cell?; simp only; rw [h1]; rfl⟩
theorem a0S : ((List.range 256).map fun i => Value.int .u8 (if i = 9 ∨ i = 10 ∨ i = 11 ∨ i = 12 ∨ i = 13 ∨ i = 32 then 1 else 0)) = Lib.asciiSpaceTab.map fun z => Value.int .u8 z := by
 have key : ∀ i : Fin 256, (if i.val = 9 ∨ i.val = 10 ∨ i.val = 11 ∨ i.val = 12 ∨ i.val = 13 ∨ i.val = 32 then (1 : Int) else 0) = if Lib.isSp (UInt8.ofNat i.val) then 1 else 0 := by decide +kernel
 unfold Lib.asciiSpaceTab
 rw [List.map_map]
 apply List.map_congr_left
 intro i hi
 have := key ⟨i, List.mem_range.1 hi⟩
 simp only at this
 rw [this]; rfl
theorem oV : Tryz.prog.globalNamed "strings.asciiSpace" = some 0 := by kernel_rfl
theorem b2o {w : World} {X : List Nat} (h : tabOK w X) : Lib.TabIs Tryz.prog w "strings.asciiSpace" .u8 Lib.asciiSpaceTab := by
 obtain ⟨_, cs, ty, fz, h1, h2⟩ := h (0, fun cs => cs = ((List.range 256).map fun i => Value.int .u8 (if i = 9 ∨ i = 10 ∨ i = 11 ∨ i = 12 ∨ i = 13 ∨ i = 32 then 1 else 0)).toArray) (by simp [b2Q, a7b])
 have h2 : cs = _ := h2
 subst h2
 unfold Lib.TabIs World.var?
 rw [oV, Option.bind_some, h1]
 simp only [a0S]
theorem b2p : (Tryz.prog.info? (Tryz.laysSplit_ren.t 9)).map (fun i => (i.zero, i.size, i.bytes)) = some (some (.string ByteArray.empty), 1, 16) := by kernel_rfl
theorem b0Z : (Tryz.prog.info? (Tryz.laysFields_ren.t 9)).map (fun i => (i.zero, i.size, i.bytes)) = some (some (.string ByteArray.empty), 1, 16) := by kernel_rfl
theorem b2q (s : ByteArray) (c : UInt8) (hs : s.size ≤ 4294967200) : FnC Tryz.prog 62 [os s, os ⟨#[c]⟩] (.o (.w 9 1 ((pieces c s).map bN))) := by
 refine ⟨Tryz.call62, fun V w vs htab hm hargs => ?_⟩
 obtain ⟨hl, hv⟩ := hargs
 match vs, hl with
 | [y, z], _ =>
  obtain ⟨rfl, _⟩ := aV (hv 1 (os ⟨#[c]⟩) z rfl rfl)
  obtain ⟨rfl, _⟩ := aV (hv 0 (os s) y rfl rfl)
  obtain ⟨m, h1⟩ := b0Y htab
  have hlen : (pieces c s).length = Lib.countB s ⟨#[c]⟩ + 1 := by
   rw [← yD]
   exact Lib.splitB_all ⟨#[c]⟩ (Nat.le_refl 1) 0 _ s rfl
  refine (Any.strings_Split Tryz.laysSplit b2p s ⟨#[c]⟩ m w (by omega) h1 (Nat.le_refl 1)).mono ?_
  rintro e w' ⟨rfl, rfl⟩
  rw [yD, ← hlen]
  have h2 := uF (pieces c s)
  rw [kJ] at h2
  exact ⟨_, rfl, Done.strs hm _ _ (by unfold maxLen; omega)⟩
theorem b1a (s : ByteArray) (hs : s.size ≤ 4294967200) (hc : wD s = true) : FnC Tryz.prog 197 [os s] (.o (.w 9 1 ((flds s).map bN))) := by
 refine ⟨Tryz.call197, fun V w vs htab hm hargs => ?_⟩
 obtain ⟨hl, hv⟩ := hargs
 match vs, hl with
 | [y], _ =>
  obtain ⟨rfl, _⟩ := aV (hv 0 (os s) y rfl rfl)
  refine (Any.strings_Fields Tryz.laysFields b0Z oV s w (by omega) (fun j b hj => by have := b4r hc hj; omega) (b2o htab)).mono ?_
  rintro e w' ⟨rfl, rfl⟩
  have e1 : ((Lib.fields s.data.toList).map fun l => Value.string ⟨l.toArray⟩) = (flds s).map Value.string := by
   unfold flds ofL
   rw [List.map_map]; rfl
  have e2 : (Lib.fields s.data.toList).length = (flds s).length := by unfold flds ofL; rw [List.length_map]
  rw [e1, e2]
  have h2 := uF (flds s)
  have h3 := a0r s
  exact ⟨_, rfl, Done.strs hm _ _ (by unfold maxLen; omega)⟩
theorem b1b (s : ByteArray) (hs : s.size ≤ 10) {V : View} {w : World} (htab : tabOK w []) : Calls Tryz.prog 110 #[.string s] w fun e w' => (∃ v : Value, e = .returned (.tuple #[.int .i64 ((Lib.atoi s.data.toList).getD 0), v]) ∧ ((Lib.atoi s.data.toList).isSome = true → v = .nilIface) ∧ ((Lib.atoi s.data.toList).isSome = false → ∃ te pe, v = .iface te pe)) ∧ Below w.heap.size w w' := by
 cases h : Lib.atoi s.data.toList with
 | some n =>
  refine (Any.strconv_Atoi { Tryz.laysAtoi with } s n (by omega) h w).mono ?_
  rintro e w' ⟨rfl, t, rfl⟩
  exact ⟨⟨_, rfl, fun _ => rfl, fun h => by cases h⟩, Lib.bytesWorld_below _ _ _⟩
 | none =>
  obtain ⟨te, pe, h1⟩ := b4n htab
  refine (Any.strconv_Atoi_err Tryz.laysAtoi s (by omega) h _ w h1 (.inr ⟨te, pe, rfl⟩)).mono ?_
  rintro e w' ⟨N, rfl, _, _, hb⟩
  exact ⟨⟨_, rfl, (fun h => by cases h), fun _ => ⟨_, _, rfl⟩⟩, hb⟩
end Go.Proofs.YtgpoopjfkplilaaGreatDoor
end
