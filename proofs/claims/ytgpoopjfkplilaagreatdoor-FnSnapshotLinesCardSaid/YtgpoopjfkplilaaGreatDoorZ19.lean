/- Joined texts. -/
import Derived.Test.YtgpoopjfkplilaaGreatDoorZ18
import Derived.Test.YtgpoopjfkplilaaGreatDoorZ13
import Derived.Sort.Walk0
import Derived.Test.YtgpoopjfkplilaaGreatDoorZ17
set_option linter.all false
section
set_option maxRecDepth 100000
set_option maxHeartbeats 4000000
namespace Go.Proofs.YtgpoopjfkplilaaGreatDoor
open Go Go.Sx Go.Wd Go.RowKit Go.Proofs
theorem b4n (l : List ByteArray) : zs l.tail ≤ zs l := by
 cases l with
 | nil => simp
 | cons x l => rw [jA, List.tail_cons]; omega
theorem b2R {l : List ByteArray} : (hd l).size + zs l.tail ≤ zs l := by
 cases l with
 | nil =>
  have : (⟨#[]⟩ : ByteArray).size = 0 := rfl
  show (⟨#[]⟩ : ByteArray).size + zs [] ≤ zs []
  omega
 | cons x l => rw [jA, List.tail_cons]; show x.size + zs l ≤ _; omega
theorem b5Z {l : List ByteArray} (h : l ≠ []) : (hd l).size + 1 + zs l.tail = zs l := by
 cases l with
 | nil => exact absurd rfl h
 | cons x l => rw [jA, List.tail_cons]; rfl
theorem zO {α : Type} (w : α → Nat) (a b : List α) : dU w (a ++ b) = dU w a + dU w b := by
 induction a with
 | nil => simp [dU]
 | cons x a ih => simp only [List.cons_append, dU, ih]; omega
theorem kH (ns : List TNode) (n : TNode) : wNodeS (ns ++ [n]) = wNodeS ns + 1 + (n.fName.size + n.fValue.fStr.size) := by
 unfold wNodeS
 rw [zO, List.length_append]
 simp only [dU, List.length_cons, List.length_nil, wC, lD]
 omega
theorem a1t : ∀ k fs ns, wNodeS (nodeI k fs ns).2.2 + zs (nodeI k fs ns).2.1 ≤ wNodeS ns + zs fs + (if (nodeI k fs ns).1 then 0 else 1)
 | 0, fs, ns => by simp [nodeI]
 | k + 1, fs, ns => by
  have e0 : (⟨#[]⟩ : ByteArray).size = 0 := rfl
  have hne : vT (hd fs) ≠ 0 → fs ≠ [] := fun h e => by rw [e] at h; exact h a1y
  have h1 : vT (hd fs) ≠ 0 → 1 + zs fs.tail ≤ zs fs := fun h => by have := b5Z (hne h); omega
  have t0 := b4n fs
  have t1 := b2R (l := fs.tail)
  have t2 := b2R (l := fs.tail.tail)
  have pv := a8t (hd fs.tail.tail)
  have a2 := a1t k fs.tail ns
  have b2 := a1t k (nodeI k fs.tail ns).2.1 (nodeI k fs.tail ns).2.2
  unfold nodeI
  simp only
  split
  ·rename_i h
   have := h1 (by omega)
   rw [kH]
   simp only [v0, if_true]
   omega
  ·split
   ·rename_i h
    have := h1 (by omega)
    rw [kH]
    simp only
    split <;> omega
   ·split
    ·rename_i h
     have := h1 (by omega)
     rw [kH]
     simp only [v0]
     revert a2
     cases (nodeI k fs.tail ns).1 <;> simp <;> intros <;> omega
    ·split
     ·rename_i h
      have := h1 (by omega)
      split
      ·rename_i h2
       rw [kH]
       simp only [v0]
       simp only [h2, if_true] at a2
       revert b2
       cases (nodeI k (nodeI k fs.tail ns).2.1 (nodeI k fs.tail ns).2.2).1 <;> simp <;> intros <;> omega
      ·rename_i h2
       rw [kH]
       simp only [v0]
       simp only [h2, Bool.false_eq_true, if_false] at a2 ⊢
       omega
     ·rw [kH]
      simp only [v0]
      by_cases h0 : vT (hd fs) = 0
      ·simp [h0]; omega
      ·have := h1 h0
       simp [h0]; omega
theorem a9A (p : List ByteArray) (i : Nat) : (part p i).size + zs (p.drop (i + 1)) ≤ zs (p.drop i) := by
 have e : part p i = hd (p.drop i) := by
  unfold part hd
  rw [List.getD_eq_getElem?_getD, List.headD_eq_head?_getD, List.head?_drop]
 have e2 : p.drop (i + 1) = (p.drop i).tail := by rw [List.tail_drop]
 rw [e, e2]
 exact b2R
theorem b6a (l : List ByteArray) : (cat 32 l).size ≤ zs l := by
 cases l with
 | nil => simp [cat, Lib.join_nil, zs]; decide
 | cons x l => have := xG (ws := x :: l) (by simp); omega
@[go_sem] def hsR (q : List TNode) : List HB := [.row 155 7 (q.map bH) true]
end Go.Proofs.YtgpoopjfkplilaaGreatDoor
end
section
set_option maxRecDepth 100000
namespace Go.Proofs.YtgpoopjfkplilaaGreatDoor
open Go Go.Sx Go.Wd Go.RowKit Go.Proofs
abbrev mI : ByteArray := ⟨#[102, 105, 101, 108, 100]⟩
abbrev nU : ByteArray := ⟨#[110, 101, 120, 116]⟩
abbrev wFile' : ByteArray := ⟨#[102, 105, 108, 101]⟩
abbrev wDir' : ByteArray := ⟨#[100, 105, 114]⟩
abbrev a0S : ByteArray := ⟨#[115, 116, 114, 105, 110, 103]⟩
abbrev a9y : ByteArray := ⟨#[105, 110, 116]⟩
noncomputable def atS (p : List ByteArray) (o k : Nat) : List TAttr := (List.range k).map fun j => ⟨part p (o + 2 * j), (pV (part p (o + 2 * j + 1))).1⟩
noncomputable def okS (p : List ByteArray) (o k : Nat) : Bool := (List.range k).all fun j => (pV (part p (o + 2 * j + 1))).2
theorem a7a (p : List ByteArray) (o k : Nat) : atS p o (k + 1) = atS p o k ++ [⟨part p (o + 2 * k), (pV (part p (o + 2 * k + 1))).1⟩] := by simp [atS, List.range_succ]
theorem b2P (p : List ByteArray) (o k : Nat) : okS p o (k + 1) = (okS p o k && (pV (part p (o + 2 * k + 1))).2) := by simp [okS, List.range_succ]
theorem a9z (p : List ByteArray) (o k : Nat) : (atS p o k).length = k := by simp [atS]
def f0 : TFile := ⟨0, 0, false, 0, []⟩
noncomputable def fileI (w : List ByteArray) : TFile × Bool :=
 if w.length < 4 ∨ w.length % 2 ≠ 0 then (f0, false)
 else (⟨(pU (part w 0)).1, (pU (part w 1)).1, decide (part w 2 = ⟨#[115]⟩), (pU (part w 3)).1, atS w 4 ((w.length - 4) / 2)⟩, (pU (part w 0)).2 && (pU (part w 1)).2 && (pU (part w 3)).2 && okS w 4 ((w.length - 4) / 2))
def fU (x : TSnapshot) (f : TField) : TSnapshot := ⟨⟨x.fStore.fSchema ++ [f], x.fStore.fFiles, x.fStore.fNextID⟩, x.fDirs⟩
def jJ (x : TSnapshot) (f : TFile) : TSnapshot := ⟨⟨x.fStore.fSchema, x.fStore.fFiles ++ [f], x.fStore.fNextID⟩, x.fDirs⟩
def lJ (x : TSnapshot) (d : TDir) : TSnapshot := ⟨x.fStore, x.fDirs ++ [d]⟩
def jK (x : TSnapshot) (n : Int) : TSnapshot := ⟨⟨x.fStore.fSchema, x.fStore.fFiles, n⟩, x.fDirs⟩
noncomputable def rdI (x : TSnapshot) (l : ByteArray) : TSnapshot × Bool :=
 let w := pieces 32 l
 if part w 0 = mI ∧ w.length = 3 then (fU x ⟨part w 1, if part w 2 = a0S then 2 else 1⟩, true)
 else if part w 0 = nU ∧ w.length = 2 then (jK x (pU (part w 1)).1, (pU (part w 1)).2)
 else if part w 0 = wFile' then (jJ x (fileI w.tail).1, (fileI w.tail).2)
 else if part w 0 = wDir' ∧ 2 < w.length then (lJ x ⟨part w 1, (pQI (cat 32 (w.drop 2))).1⟩, (pQI (cat 32 (w.drop 2))).2)
 else (x, false)
noncomputable def fileS (p : List ByteArray) : TFile := ⟨(pU (part p 1)).1, (pU (part p 2)).1, decide (part p 3 = ⟨#[115]⟩), (pU (part p 4)).1, atS p 5 ((p.length - 4) / 2)⟩
noncomputable def rdS (x : TSnapshot) (l : ByteArray) : TSnapshot :=
 let p := sfL l
 if part p 0 = mI then fU x ⟨part p 1, if part p 2 = a9y then 1 else 2⟩
 else if part p 0 = nU then jK x (pU (part p 1)).1
 else if part p 0 = wFile' then jJ x (fileS p)
 else if part p 0 = wDir' then lJ x ⟨part p 1, if 2 < p.length then (pQS (cat 32 (p.drop 2))).1 else []⟩
 else x
noncomputable def fI : TSnapshot → List ByteArray → TSnapshot × Bool
 | x, [] => (x, true)
 | x, l :: ls => if (rdI x l).2 then fI (rdI x l).1 ls else (x, false)
noncomputable def b2Q (x : TSnapshot) (ls : List ByteArray) : TSnapshot := ls.foldl rdS x
def x0 : TSnapshot := ⟨⟨[], [], 0⟩, []⟩
noncomputable def dcI (ls : List ByteArray) : TSnapshot × Bool := if (fI x0 ls).2 && (gZ (fI x0 ls).1 && decide (lnX (fI x0 ls).1 = ls)) then ((fI x0 ls).1, true) else (x0, false)
noncomputable def dcS (ls : List ByteArray) : TSnapshot × Bool := if gZ (b2Q x0 ls) && decide (lnX (b2Q x0 ls) = ls) then (b2Q x0 ls, true) else (x0, false)
theorem gN {p : List ByteArray} {k : Nat} (h : k < p.length) : part p k = p[k] := by unfold part; rw [List.getD_eq_getElem?_getD, List.getElem?_eq_getElem h]; rfl
theorem zN {p : List ByteArray} {i : Nat} (h : i < p.length) : (part p i).size + 1 + zs (p.drop (i + 1)) = zs (p.drop i) := by
 rw [List.drop_eq_getElem_cons h, jA, gN h]
theorem rZ (p : List ByteArray) (i : Nat) : zs (p.drop (i + 1)) ≤ zs (p.drop i) := by
 have := a9A p i; omega
theorem a6Y (l : List TAttr) (a : TAttr) : eB (l ++ [a]) = eB l + 1 + (a.fName.size + a.fValue.fStr.size) := by
 unfold eB
 rw [zO, List.length_append]
 simp only [dU, List.length_cons, List.length_nil, iX, lD]
 omega
theorem b4F (p : List ByteArray) (o : Nat) : ∀ k, (∀ j, j < k → o + 2 * j < p.length) → eB (atS p o k) + zs (p.drop (o + 2 * k)) ≤ zs (p.drop o)
 | 0, _ => by simp [atS, eB, dU]
 | k + 1, h => by
  have ih := b4F p o k (fun j hj => h j (by omega))
  have h1 := zN (h k (by omega))
  have h2 := a9A p (o + 2 * k + 1)
  have h3 := a8t (part p (o + 2 * k + 1))
  have e : o + 2 * (k + 1) = o + 2 * k + 1 + 1 := by omega
  rw [a7a, a6Y, e]
  simp only
  omega
theorem b7A (s : ByteArray) : wNodeS (pQI s).1 ≤ s.size + 1 := by
 have h1 := a1t ((sfL s).length + 10) (sfL s) []
 have h2 := b1b s
 have e : wNodeS [] = 0 := rfl
 rw [e] at h1
 unfold pQI
 simp only
 split
 ·rename_i h
  simp only [Bool.and_eq_true] at h
  rw [h.2.1] at h1
  simp only [if_true] at h1
  simp only
  omega
 ·show wNodeS [] ≤ _; omega
theorem a5k (l : List TField) (f : TField) : bB (l ++ [f]) = bB l + 1 + f.fName.size := by
 unfold bB; rw [zO, List.length_append]; simp only [dU, List.length_cons, List.length_nil, lW]; omega
theorem a6Z (l : List TFile) (f : TFile) : iR (l ++ [f]) = iR l + 1 + eB f.fAttrs := by
 unfold iR; rw [zO, List.length_append]; simp only [dU, List.length_cons, List.length_nil, fG]; omega
theorem a8m (l : List TDir) (d : TDir) : jR (l ++ [d]) = jR l + 1 + (d.fName.size + wNodeS d.fQuery) := by
 unfold jR; rw [zO, List.length_append]; simp only [dU, List.length_cons, List.length_nil, nZ]; omega
theorem b2O {p : List ByteArray} {i : Nat} (h : i < p.length) : part p i ∈ p := by rw [gN h]; exact List.getElem_mem h
theorem b0R {p : List ByteArray} {i : Nat} (h : ¬ i < p.length) : part p i = ⟨#[]⟩ := by unfold part; rw [List.getD_eq_getElem?_getD, List.getElem?_eq_none (by omega)]; rfl
theorem b4m {p : List ByteArray} {i : Nat} (h : part p i ≠ ⟨#[]⟩) : i < p.length := Nat.lt_of_not_le fun h' => h (b0R (by omega))
theorem b7B (x : TSnapshot) (l : ByteArray) (h : (rdI x l).2 = true) : bM (rdI x l).1 ≤ bM x + (l.size + 1) := by
 have hz := tK 32 l
 unfold rdI at h ⊢
 simp only at h ⊢
 generalize pieces 32 l = w at *
 split at h
 ·rename_i hc
  rw [if_pos hc]
  have := a4k (b2O (p := w) (i := 1) (by omega))
  unfold fU bM eD
  simp only
  rw [a5k]
  simp only
  omega
 ·rename_i h1
  rw [if_neg h1]
  split at h
  ·rename_i hc
   rw [if_pos hc]
   unfold jK bM eD
   simp only
   omega
  ·rename_i h2
   rw [if_neg h2]
   split at h
   ·rename_i hc
    rw [if_pos hc]
    have hw0 : 0 < w.length := b4m (by rw [hc]; decide)
    have e1 := zN hw0
    rw [List.drop_zero] at e1
    have e2 : w.drop (0 + 1) = w.tail := List.drop_one
    rw [e2] at e1
    unfold jJ bM eD
    simp only
    rw [a6Z]
    have hf : eB (fileI w.tail).1.fAttrs ≤ zs w.tail := by
     unfold fileI
     split
     ·show eB [] ≤ _; simp [eB, dU]
     ·rename_i hl
      simp only
      have := b4F w.tail 4 ((w.tail.length - 4) / 2) (fun j hj => by omega)
      have d1 := rZ w.tail 0; have d2 := rZ w.tail 1; have d3 := rZ w.tail 2; have d4 := rZ w.tail 3
      simp only [List.drop_zero, Nat.zero_add, Nat.reduceAdd] at d1 d2 d3 d4
      omega
    omega
   ·rename_i h3
    rw [if_neg h3]
    split at h
    ·rename_i hc
     rw [if_pos hc]
     have e1 := zN (p := w) (i := 0) (by omega)
     have e2 := zN (p := w) (i := 1) (by omega)
     rw [List.drop_zero] at e1
     have hq := b7A (cat 32 (w.drop 2))
     have hcz := xG (ws := w.drop 2) (fun e => by have := congrArg List.length e; rw [List.length_drop] at this; simp at this; omega)
     unfold lJ bM
     simp only
     rw [a8m]
     simp only
     have e3 : zs (w.drop (1 + 1)) = zs (w.drop 2) := rfl
     have e4 : zs (w.drop (0 + 1)) = zs (w.drop 1) := rfl
     omega
    ·cases h
theorem a9x : ∀ (ls : List ByteArray) (x : TSnapshot), (fI x ls).2 = true → bM (fI x ls).1 ≤ bM x + zs ls
 | [], x, _ => by simp [fI]
 | l :: ls, x, h => by
  unfold fI at h ⊢
  split at h
  ·rename_i hc
   rw [if_pos hc]
   have h1 := b7B x l hc
   have h2 := a9x ls _ h
   rw [jA]; omega
  ·cases h
theorem b8I : bM x0 = 0 := rfl
theorem a2z {n a b : Int} (h : inB n a b = true) : a ≤ n ∧ n ≤ b := by
 unfold inB at h; simpa using h
theorem rR {s : List TField} (h : okSchema s = true) {f : TField} (hf : f ∈ s) : aV f.fName 1 = true ∧ (f.fKind = 1 ∨ f.fKind = 2) := by
 unfold okSchema at h
 simp only [Bool.and_eq_true, List.all_eq_true, List.mem_range] at h
 obtain ⟨k, hk, rfl⟩ := List.getElem_of_mem hf
 have := h.1 k hk
 unfold fZ at this
 rw [List.getElem?_eq_getElem hk] at this
 simp only [Bool.and_eq_true] at this
 have h2 := a2z this.2.1
 exact ⟨this.1, by omega⟩
theorem zM {x : TStore} (h : bL x = true) {f : TFile} (hf : f ∈ x.fFiles) : dE x.fSchema f = true := by
 unfold bL at h
 simp only [Bool.and_eq_true, List.all_eq_true, List.mem_range] at h
 obtain ⟨k, hk, rfl⟩ := List.getElem_of_mem hf
 have := h.1 k hk
 unfold fT at this
 rw [List.getElem?_eq_getElem hk] at this
 simp only [Bool.and_eq_true] at this
 exact this.1
theorem uS {x : TStore} (h : bL x = true) : okSchema x.fSchema = true ∧ 1 ≤ x.fNextID ∧ x.fNextID ≤ 61 := by
 unfold bL at h
 simp only [Bool.and_eq_true] at h
 exact ⟨h.2.1, a2z h.2.2.2⟩
theorem rW {s : List TField} {f : TFile} (h : dE s f = true) : (1 ≤ f.fID ∧ f.fID ≤ 60) ∧ (0 ≤ f.fOwner ∧ f.fOwner ≤ 2) ∧ (0 ≤ f.fLink ∧ f.fLink ≤ 60) ∧ okSchema s = true ∧ ∀ k (hk : k < f.fAttrs.length), kP TAttr.fName f.fAttrs k = true ∧ iK s f.fAttrs[k].fName f.fAttrs[k].fValue = true := by
 unfold dE at h
 simp only [Bool.and_eq_true, List.all_eq_true, List.mem_range] at h
 refine ⟨a2z h.2.1, a2z h.2.2.1, a2z h.2.2.2.1, h.2.2.2.2, fun k hk => ?_⟩
 have := h.1 k hk
 unfold fB at this
 rw [List.getElem?_eq_getElem hk] at this
 simp only [Bool.and_eq_true] at this
 exact this
theorem wI {n : ByteArray} : ∀ {s : List TField}, fH n s ≠ 0 → ∃ f ∈ s, f.fName = n
 | [], h => absurd rfl h
 | f :: s, h => by
  unfold fH at h
  split at h
  ·exact ⟨f, by simp, by assumption⟩
  ·obtain ⟨g, hg, e⟩ := wI h
   exact ⟨g, by simp [hg], e⟩
theorem rX {s : List TField} {n : ByteArray} {v : TValue} (hs : okSchema s = true) (h : iK s n v = true) : dA v = true ∧ v.fKind ≠ 0 ∧ aV n 1 = true ∧ n ∈ s.map TField.fName := by
 unfold iK at h
 simp only [Bool.and_eq_true, Bool.not_eq_true', decide_eq_false_iff_not, decide_eq_true_eq] at h
 obtain ⟨f, hf, rfl⟩ := wI (n := n) (s := s) (by rw [← h.2.2]; exact h.2.1)
 exact ⟨h.1, h.2.1, (rR hs hf).1, List.mem_map.2 ⟨f, hf, rfl⟩⟩
theorem b2M {a b : ByteArray} (h : gB a b = true) : a.data.toList < b.data.toList := by
 unfold gB at h
 rw [Go.Proofs.bytesLess_eq, decide_eq_true_eq, ByteArray.toList_eq, ByteArray.toList_eq] at h
 exact h
theorem b2N {α : Type} (g : α → ByteArray) (l : List α) (h : ∀ k, k < l.length → kP g l k = true) : ∀ (d i : Nat) (hd : i + d + 1 < l.length), (g (l[i]'(by omega))).data.toList < (g l[i + d + 1]).data.toList
 | 0, i, hd => by
  have := h (i + 1) (by omega)
  rw [jH g l (i + 1) (by omega) (by omega)] at this
  exact b2M this
 | d + 1, i, hd => by
  have h1 := b2N g l h d i (by omega)
  have := h (i + d + 1 + 1) (by omega)
  rw [jH g l (i + d + 1 + 1) (by omega) (by omega)] at this
  exact List.lt_trans h1 (b2M this)
theorem a3W {α : Type} [DecidableEq α] : ∀ (l m : List α), l.Nodup → (∀ x ∈ l, x ∈ m) → l.length ≤ m.length
 | [], m, _, _ => Nat.zero_le _
 | x :: l, m, h, hm => by
  have hx := hm x (by simp)
  have h1 := (List.nodup_cons.1 h).1
  have := a3W l (m.erase x) (List.nodup_cons.1 h).2 fun y hy => (List.mem_erase_of_ne (fun e => h1 (by rw [← e]; exact hy))).2 (hm y (by simp [hy]))
  rw [List.length_erase_of_mem hx] at this
  have := List.length_pos_of_mem hx
  simp only [List.length_cons]
  omega
theorem a3X {s : List TField} {f : TFile} (h : dE s f = true) : f.fAttrs.length ≤ 5 := by
 obtain ⟨_, _, _, hs, ha⟩ := rW h
 have hl : s.length ≤ 5 := by
  unfold okSchema at hs
  simp only [Bool.and_eq_true, decide_eq_true_eq] at hs
  omega
 have hnd : (f.fAttrs.map TAttr.fName).Nodup := by
  rw [List.Nodup, List.pairwise_iff_getElem]
  intro i j hi hj hij e
  simp only [List.length_map] at hi hj
  obtain ⟨d, rfl⟩ : ∃ d, j = i + d + 1 := ⟨j - i - 1, by omega⟩
  have := b2N TAttr.fName f.fAttrs (fun k hk => (ha k hk).1) d i hj
  simp only [List.getElem_map] at e
  rw [e] at this
  exact List.lt_irrefl _ this
 have := a3W (f.fAttrs.map TAttr.fName) (s.map TField.fName) hnd fun x hx => by
  obtain ⟨a, ha', rfl⟩ := List.mem_map.1 hx
  obtain ⟨k, hk, rfl⟩ := List.getElem_of_mem ha'
  exact (rX hs (ha k hk).2).2.2.2
 simpa [List.length_map] using Nat.le_trans this (by simpa using hl)
theorem a2A {d : List TDir} (h : dJ d = true) {x : TDir} (hx : x ∈ d) : aV x.fName 6 = true ∧ okQ x.fQuery = true := by
 unfold dJ at h
 simp only [Bool.and_eq_true, List.all_eq_true, List.mem_range] at h
 obtain ⟨k, hk, rfl⟩ := List.getElem_of_mem hx
 have := h.1 k hk
 unfold jI at this
 rw [List.getElem?_eq_getElem hk] at this
 simp only [Bool.and_eq_true] at this
 exact ⟨this.1, this.2.2⟩
theorem rY {x : TSnapshot} (h : gZ x = true) : bL x.fStore = true ∧ dJ x.fDirs = true := by
 unfold gZ at h
 simp only [Bool.and_eq_true] at h
 refine ⟨h.1, ?_⟩
 have := h.2
 unfold qD at this
 split at this
 ·assumption
 ·cases this
theorem i64 {n : Int} (h : -1000000 ≤ n ∧ n ≤ 1000000) : inR .i64 n := by unfold inR; simp only; omega
theorem a6X {v : TValue} (h : dA v = true) : vC v := by
 have hs := a6k h
 unfold dA at h
 refine ⟨?_, ?_, by omega⟩
 ·split at h
  ·exact i64 (by omega)
  ·split at h
   ·exact i64 (by omega)
   ·split at h
    ·exact i64 (by omega)
    ·cases h
 ·split at h
  ·simp at h; exact i64 (by omega)
  ·split at h
   ·simp [inB] at h; exact i64 (by omega)
   ·split at h
    ·simp at h; exact i64 (by omega)
    ·cases h
theorem b0Q {n : TNode} {i : Nat} (hi : i ≤ 9) (h : bF n i = true) : a7Q n := by
 have z : vC v0 := ⟨i64 (by simp [v0]), i64 (by simp [v0]), by simp only [v0]; decide⟩
 rcases node_shape h with ⟨o, e⟩ | ⟨o, e, et⟩ | ⟨o, e, ev, ek, et⟩ | ⟨o, l, hl, hli⟩ | ⟨o, l, m, hl, hli, hm, hmi⟩
 ·rw [e]
  exact ⟨i64 (by simp), i64 (by simp), i64 (by simp), by simp only; decide, z⟩
 ·have := jD et
  rw [e]
  exact ⟨i64 (by simp only; omega), i64 (by simp), i64 (by simp), by simp only; omega, z⟩
 ·have := jD et
  rw [e]
  exact ⟨i64 (by simp only; omega), i64 (by simp), i64 (by simp), by simp only; omega, a6X ev⟩
 ·unfold bF at h
  simp [o] at h
  obtain ⟨b1, b2⟩ := zR h.2.2
  exact ⟨i64 (by omega), i64 (by omega), i64 (by omega), by rw [b1]; decide, by rw [b2]; exact z⟩
 ·unfold bF at h
  have h' : jX n = true := by
   rcases o with o | o <;> simp [o] at h <;> exact h.2.2
  obtain ⟨b1, b2⟩ := zR h'
  exact ⟨i64 (by omega), i64 (by omega), i64 (by omega), by rw [b1]; decide, by rw [b2]; exact z⟩
theorem a3Y {x : TSnapshot} (h : gZ x = true) (hw : bM x ≤ 1048576) : SmX x := by
 obtain ⟨h1, h2⟩ := rY h
 obtain ⟨hs, hn⟩ := uS h1
 have hw' := hw
 unfold bM eD bB iR jR at hw'
 refine ⟨⟨⟨⟨by omega, fun f hf => ?_⟩, ⟨by omega, fun f hf => ?_⟩, i64 (by omega)⟩, ⟨by omega, fun d hd => ?_⟩⟩, hw⟩
 ·obtain ⟨a, b⟩ := rR hs hf
  have := jD a
  exact ⟨by omega, i64 (by omega)⟩
 ·have hf' := zM h1 hf
  have hfew := a3X hf'
  obtain ⟨a, b, c, _, e⟩ := rW hf'
  refine ⟨i64 (by omega), i64 (by omega), trivial, i64 (by omega), by omega, fun t ht => ?_⟩
  obtain ⟨k, hk, rfl⟩ := List.getElem_of_mem ht
  obtain ⟨m1, m2, m3, _⟩ := rX hs (e k hk).2
  have := jD m3
  exact ⟨by omega, a6X m1⟩
 ·obtain ⟨a, b⟩ := a2A h2 hd
  have := jD a
  have hl := iI b
  refine ⟨by omega, by omega, fun n hn => ?_⟩
  obtain ⟨k, hk, rfl⟩ := List.getElem_of_mem hn
  exact b0Q (by omega) (uH b (List.getElem?_eq_getElem hk))
end Go.Proofs.YtgpoopjfkplilaaGreatDoor
end
section
set_option maxRecDepth 100000
set_option maxHeartbeats 4000000
namespace Go.Proofs.YtgpoopjfkplilaaGreatDoor
open Go Go.Sx Go.Wd Go.RowKit Go.Proofs
theorem a2C (s : ByteArray) (hs : s.size ≤ 4300000) : FnC Tryz.prog 149 [os s] (.t [(false, [.d (.sl ((sfL s).map dL))]), (false, [.d (bv (sfO s))])]) := (xE s hs).pu (by simp only [go_sem, and_self])
theorem b4u {s w : ByteArray} (h : w ∈ sfL s) : w.size ≤ 600 := by
 have := a4k h
 have := (a8p s).2
 omega
noncomputable abbrev rQI (s : ByteArray) : SV := .t [(false, [.w 155 7 ((pQI s).1.map bH)]), (false, [.d (bv (pQI s).2)])]
noncomputable abbrev rQS (s : ByteArray) : SV := .t [(false, [.w 155 7 ((pQS s).1.map bH)]), (false, [.d (bv (pQS s).2)])]
theorem zQ (s : ByteArray) (hs : s.size ≤ 4300000) : FnC Tryz.prog 96 [os s] (rQI s) := by
 refine ent Tryz.func96 rfl Tryz.call96 rfl (fun C => ?_); simp only [go_sem, st0, Tryz.ntmps96]
 have c := a2C s hs
 cases ho : sfO s
 ·have e : pQI s = ([], false) := by unfold pQI; simp [ho]
  have q0 := @ho; have q1 := @Bool.not_false; refine b3K c ?_
  exact aA ⟨⟨_, rfl, by simp only [go_sem, e]⟩, by simp [bW]⟩
 have hl := a8p s
 have cn := b4o ((sfL s).length + 10) (sfL s) [] (by omega) (by simp; omega) (fun w hw => by have := b4u hw; omega)
 have hw := a1t ((sfL s).length + 10) (sfL s) []
 have e0 : pQI s = if (nodeI ((sfL s).length + 10) (sfL s) []).1 && ((nodeI ((sfL s).length + 10) (sfL s) []).2.1.isEmpty && okQ (nodeI ((sfL s).length + 10) (sfL s) []).2.2) then ((nodeI ((sfL s).length + 10) (sfL s) []).2.2, true) else ([], false) := by unfold pQI; rw [ho]; simp only [Bool.true_and]
 generalize nodeI ((sfL s).length + 10) (sfL s) [] = r at *
 generalize sfL s = fs at *
 obtain ⟨r1, r2, r3⟩ := r
 simp only at *
 have q0 := @ho; have q1 := @Bool.not_true; refine b3K c ?_
 refine b4s 0 1 155 7 rfl rfl ?_
 simp only [go_sem]
 refine kU cn [] rfl rfl rfl ?_
 rintro ⟨⟩ _
 simp only [go_sem]
 cases r1
 ·have e : pQI s = ([], false) := by rw [e0]; rfl
  have q0 := @Bool.not_false; refine iW ?_
  exact aA ⟨⟨_, rfl, by simp only [go_sem, e]⟩, by simp [bW]⟩
 cases r2 with
 | cons w fs' =>
  have e : pQI s = ([], false) := by rw [e0]; rfl
  have d : decide ((0 : Int) < ((fs'.length + 1 : Nat) : Int)) = true := by rw [decide_eq_true_iff]; omega
  have q0 := @d; have q1 := @Bool.not_true; have q2 := @gI; have q3 := @b4z; refine jQ ?_
  exact aA ⟨⟨_, rfl, by simp only [go_sem, e]⟩, by simp [bW]⟩
 | nil =>
  have d : decide ((0 : Int) < ((0 : Nat) : Int)) = false := rfl
  have hz : wNodeS r3 ≤ 4300000 := by
   have e1 : zs [] = 0 := rfl
   have e2 : wNodeS [] = 0 := rfl
   rw [e1, e2] at hw
   simp only [if_true] at hw
   omega
  have cq := bJ r3 hz
  cases hq : okQ r3
  ·have e : pQI s = ([], false) := by rw [e0, hq]; rfl
   rw [hq] at cq
   have qH := aI @d (aI @Bool.not_true (aI @Bool.not_false @gI)); repeat' (with_reducible first | refine nY ?_ | (refine mX ?_; try simp only [go_sem, qH]) | refine kD ?_ | refine rD ?_ | refine vL cq ?_ | refine aO ?_ | fail)
   exact aA ⟨⟨_, rfl, by simp only [go_sem, e]⟩, by simp [bW]⟩
  ·have e : pQI s = (r3, true) := by rw [e0, hq]; rfl
   rw [hq] at cq
   have qH := aI @d (aI @Bool.not_true (aI @Bool.not_false @gI)); repeat' (with_reducible first | refine nY ?_ | (refine mX ?_; try simp only [go_sem, qH]) | refine kD ?_ | refine rD ?_ | refine vL cq ?_ | refine aO ?_ | fail)
   exact aA ⟨⟨_, rfl, by simp only [go_sem, e]⟩, by simp [bW]⟩
end Go.Proofs.YtgpoopjfkplilaaGreatDoor
end
section
set_option maxRecDepth 100000
set_option maxHeartbeats 4000000
namespace Go.Sx
open Go Go.RowKit
theorem b7C {P : Program} {C : Ctx} {F : Ex → St → Prop} {st st' : St} {code : Code} (l : List (Nat × Nat)) (hs : swL st l = some st') (h : WP P C code F st') : WP P C code F st := fun g V a w hr => by
 obtain ⟨g', hr'⟩ := hr.swL l hs
 exact h g' V a w hr'
structure StopT (Q : Prop) : Prop where
 out : Q
theorem b4G (n : Nat) {P : Program} {C : Ctx} {F : Ex → St → Prop} {st : St} {ops : Array Oper} {d : Bool} (h : StopT (WP P C (.region n ops d) F st)) : WP P C (.region n ops d) F st := h.out
end Go.Sx
namespace Go.Proofs.YtgpoopjfkplilaaGreatDoor
open Go Go.Sx Go.Wd Go.RowKit Go.Proofs
noncomputable abbrev rFI (w : List ByteArray) : SV := .t [(true, [.d (iv (fileI w).1.fID), .d (iv (fileI w).1.fOwner), .d (bv (fileI w).1.fShared), .d (iv (fileI w).1.fLink), .w 124 4 ((fileI w).1.fAttrs.map fF)]), (false, [.d (bv (fileI w).2)])]
theorem a2U (w : List ByteArray) (hl : w.length ≤ 4300000) (hw : ∀ x ∈ w, x.size ≤ 4300000) : FnC Tryz.prog 95 [.o (.d (.sl (w.map dL)))] (rFI w) := by
 refine ent Tryz.func95 rfl Tryz.call95 rfl (fun C => ?_); simp only [go_sem, st0, Tryz.ntmps95]
 by_cases h4 : w.length < 4
 ·have d : decide (((w.length : Nat) : Int) < 4) = true := by rw [decide_eq_true_iff]; omega
  have e : fileI w = (f0, false) := by unfold fileI; rw [if_pos (.inl h4)]
  have q0 := @d; have q1 := @gI; refine jM ?_
  exact aA ⟨⟨_, rfl, by simp only [go_sem, e, f0]⟩, by simp [bW]⟩
 have d : decide (((w.length : Nat) : Int) < 4) = false := by rw [decide_eq_false_iff_not]; omega
 by_cases h2 : w.length % 2 ≠ 0
 ·have d2 : decide (((w.length : Nat) : Int).tmod 2 = 0) = false := by rw [decide_eq_false_iff_not, Int.tmod_eq_emod_of_nonneg (by omega)]; omega
  have e : fileI w = (f0, false) := by unfold fileI; rw [if_pos (.inr h2)]
  have q0 := @d; have q1 := @d2; have q2 := @Bool.not_false; have q3 := @gI; refine jQ ?_
  exact aA ⟨⟨_, rfl, by simp only [go_sem, e, f0]⟩, by simp [bW]⟩
 have d2 : decide (((w.length : Nat) : Int).tmod 2 = 0) = true := by rw [decide_eq_true_iff, Int.tmod_eq_emod_of_nonneg (by omega)]; omega
 have c0 := iC w[0]
 have c1 := iC w[1]
 have c3 := iC w[3]
 have l0 : 0 < w.length := by omega
 have l1 : 1 < w.length := by omega
 have l2 : 2 < w.length := by omega
 have l3 : 3 < w.length := by omega
 have e : fileI w = (⟨(pU w[0]).1, (pU w[1]).1, decide (w[2] = ⟨#[115]⟩), (pU w[3]).1, atS w 4 ((w.length - 4) / 2)⟩, (pU w[0]).2 && (pU w[1]).2 && (pU w[3]).2 && okS w 4 ((w.length - 4) / 2)) := by
  unfold fileI; rw [if_neg (by omega), gN l0, gN l1, gN l2, gN l3]
 have qH := aI @d (aI @d2 (aI @Bool.not_true (aI @l0 (aI @l1 (aI @l2 (aI @l3 @gI)))))); repeat' (with_reducible first | refine b4G 7 ?_ | refine nY ?_ | (refine mX ?_; try simp only [go_sem, qH]) | refine kD ?_ | refine rD ?_ | refine cP c0 ?_ | refine cP c1 ?_ | refine cP c3 ?_ | refine aO ?_ | fail)
 refine ⟨?_⟩
 refine a7K [(11, ob ((pU w[0]).2 && (pU w[1]).2 && (pU w[3]).2))] [] ?_ ?_
 ·cases h0 : (pU w[0]).2 <;> cases h1 : (pU w[1]).2 <;> cases h3 : (pU w[3]).2
  all_goals
   have q0 := @h0; have q1 := @h1; have q2 := @h3; refine kI ?_
   exact a1V (by simp only [go_sem, h0, h1, h3]; simp) (by simp only [go_sem])
 simp only [go_sem]
 refine aD ?_
 refine uY 1 4 124 4 rfl rfl ?_
 simp only [go_sem]
 refine dB (α := Nat) (fun k => [(11, ob ((pU w[0]).2 && (pU w[1]).2 && (pU w[3]).2 && okS w 4 k)), (12, oi ((4 + 2 * k : Nat) : Int))]) (fun k => [(1, .box 86 [.d (iv (pU w[0]).1), .d (iv (pU w[1]).1), .d (bv (decide (w[2] = ⟨#[115]⟩))), .d (iv (pU w[3]).1), .s 2]), (2, .row 124 4 ((atS w 4 k).map fF) true)]) (fun k => k ≤ (w.length - 4) / 2) (fun k => (w.length - 4) / 2 - k) 0 (fun _ => ?_) ?_ ?_ (fun k hk => ?_)
 ·simp only [go_sem]
 ·simp only [go_sem]; simp [atS, okS]
 ·omega
 simp only [go_sem]
 have q0 := @gI; refine iW ?_
 refine cnd rfl (fun h => ?_) (fun h => ?_)
 ·simp only [decide_eq_true_eq] at h
  have m0 : 4 + 2 * k < w.length := by omega
  have m1 : 4 + 2 * k + 1 < w.length := by omega
  have cv := kR w[4 + 2 * k + 1] (hw _ (List.getElem_mem m1))
  have hn := a7a w 4 k
  have hok := b2P w 4 k
  rw [gN m0, gN m1] at hn
  rw [gN m1] at hok
  have hlen := a9z w 4 k
  have g1 : (atS w 4 k).length + 1 ≤ 140737488355328 := by omega
  have ec : (((4 + 2 * k : Nat) : Int) + 1) = ((4 + 2 * k + 1 : Nat) : Int) := by omega
  have ec2 : (((4 + 2 * k : Nat) : Int) + 2) = ((4 + 2 * (k + 1) : Nat) : Int) := by omega
  have hin : inR .i64 ((4 + 2 * (k + 1) : Nat) : Int) := by unfold inR; simp only; omega
  generalize hX : ((pU w[0]).2 && (pU w[1]).2 && (pU w[3]).2 && okS w 4 k) = X at *
  have hX2 : ((pU w[0]).2 && (pU w[1]).2 && (pU w[3]).2 && okS w 4 (k + 1)) = (X && (pV w[4 + 2 * k + 1]).2) := by rw [← hX, hok]; simp only [Bool.and_assoc]
  generalize hP : pV w[4 + 2 * k + 1] = pv at *
  obtain ⟨pv1, pv2⟩ := pv
  have qH := aI @m0 (aI @m1 (aI @g1 (aI @ec (aI @hP @gI)))); repeat' (with_reducible first | refine b4G 13 ?_ | refine nY ?_ | (refine mX ?_; try simp only [go_sem, qH]) | refine kD ?_ | (apply rE [8,9,11] [] [0,1,2,3,4,5,6,7] [0,1,2,3,4,5,6,7] ((.c 8 [] [0,1] (.c 9 [10] [10] (.c 11 [] [] .n .n) .n) .n)) (by simp only [go_sem]; rfl) (by simp only [go_sem]; rfl) (by simp only [go_sem]; rfl) (by decide +kernel); (focus simp only [go_sem]; done)) | exact bA | refine aM (uX ?_) ?_ | refine aN (aX ?_) ?_ | refine aP (aX ?_) ?_ | exact bD | exact oH | exact uB | refine rD ?_ | refine cP cv ?_ | refine aO ?_ | fail)
  refine ⟨?_⟩
  cases X <;> cases pv2
  all_goals
   have q0 := @ec2; have q1 := @hin; refine jM ?_
   refine aQ (k + 1) ?_ ?_ ?_
   ·simp only [go_sem, hX2, hn, List.map_append]; simp
   ·omega
   ·omega
 ·simp only [decide_eq_false_iff_not] at h
  have ek : k = (w.length - 4) / 2 := by omega
  subst ek
  generalize atS w 4 ((w.length - 4) / 2) = l at *
  refine aD ?_
  exact aA ⟨⟨_, rfl, by simp only [go_sem, e]⟩, by simp [bW]⟩
end Go.Proofs.YtgpoopjfkplilaaGreatDoor
end
section
set_option maxRecDepth 100000
set_option maxHeartbeats 4000000
namespace Go.Proofs.YtgpoopjfkplilaaGreatDoor
open Go Go.Sx Go.Wd Go.RowKit Go.Proofs
theorem b0S (s : ByteArray) (c : UInt8) (hs : s.size ≤ 4294967200) : FnC Tryz.prog 62 [os s, os ⟨#[c]⟩] (.o (.d (.sl ((pieces c s).map dL)))) := (b0Z s c hs).pu (by simp only [go_sem, and_self])
theorem a5m (w : List ByteArray) : ∀ r ∈ List.map dL w, r.length = 1 := fun r hr => by
 obtain ⟨x, _, rfl⟩ := List.mem_map.1 hr; rfl
theorem a4d {α β : Type} (f : α → β) (l : List α) : (List.map f l).take l.length = List.map f l := List.take_of_length_le (by simp)
theorem b0T (w : List ByteArray) : (List.map dL w).drop 1 = List.map dL w.tail := by rw [← List.map_drop, List.drop_one]
theorem b0U (w : List ByteArray) : (List.map dL w).drop 2 = List.map dL (w.drop 2) := by rw [← List.map_drop]
@[go_sem] def hsX (x : TSnapshot) : List HB := [.box 31 [.s 1, .s 2, .d (iv x.fStore.fNextID), .s 3], .row 81 2 (x.fStore.fSchema.map bY) true, .row 86 5 (x.fStore.fFiles.map dX) true, .row 90 2 (x.fDirs.map eP) true]
theorem b2T {x : TSnapshot} {l : ByteArray} {w : List ByteArray} (h : pieces 32 l = w) : rdI x l =
    if part w 0 = mI ∧ w.length = 3 then (fU x ⟨part w 1, if part w 2 = a0S then 2 else 1⟩, true)
    else if part w 0 = nU ∧ w.length = 2 then (jK x (pU (part w 1)).1, (pU (part w 1)).2)
    else if part w 0 = wFile' then (jJ x (fileI w.tail).1, (fileI w.tail).2)
    else if part w 0 = wDir' ∧ 2 < w.length then (lJ x ⟨part w 1, (pQI (cat 32 (w.drop 2))).1⟩, (pQI (cat 32 (w.drop 2))).2)
    else (x, false) := by subst h; rfl
theorem a7d (x : TSnapshot) (l : ByteArray) (hs : l.size ≤ 2000000) (b1 : x.fStore.fSchema.length ≤ 2000000) (b2 : x.fStore.fFiles.length ≤ 2000000) (b3 : x.fDirs.length ≤ 2000000) :
    FnZ Tryz.prog 52 true (hsX x) [.o (.p 0 0), os l] (fun _ : Unit => True) (fun _ => hsX (rdI x l).1) (fun _ => ob (rdI x l).2) := by
 refine b6d Tryz.func52 rfl Tryz.call52 rfl (fun _ => rfl) (fun _ => ⟨_, _, rfl⟩) (fun C b => ?_)
 simp only [go_sem, Tryz.ntmps52]
 have cs := b0S l 32 (by omega)
 have hne := a9O 32 l
 have hz := tK 32 l
 have hmu := b2T (x := x) (l := l) rfl
 generalize pieces 32 l = w at *
 have l0 : 0 < w.length := List.length_pos_iff.2 hne
 rw [gN l0] at hmu
 have hzl := a1A w
 have hzm : ∀ y ∈ w, y.size ≤ 4300000 := fun y hy => by have := a4k hy; omega
 by_cases hF : w[0] = mI
 ·have dF : decide (w[0] = mI) = true := by simp [hF]
  have dN : decide (w[0] = nU) = false := by rw [hF]; decide
  have dI : decide (w[0] = wFile') = false := by rw [hF]; decide
  have dD : decide (w[0] = wDir') = false := by rw [hF]; decide
  have nN : ¬ w[0] = nU := by simpa using dN
  have nI : ¬ w[0] = wFile' := by simpa using dI
  have nD : ¬ w[0] = wDir' := by simpa using dD
  by_cases h3 : w.length = 3
  ·have d3 : decide (((w.length : Nat) : Int) = 3) = true := by rw [decide_eq_true_iff]; omega
   have l1 : 1 < w.length := by omega
   have l2 : 2 < w.length := by omega
   have g1 : x.fStore.fSchema.length + 1 ≤ 140737488355328 := by omega
   rw [if_pos ⟨hF, h3⟩, gN l1, gN l2] at hmu
   clear hF
   by_cases hS : w[2] = a0S
   ·have dS : decide (w[2] = a0S) = true := by simp [hS]
    have hm : rdI x l = (fU x ⟨w[1], 2⟩, true) := by rw [hmu, if_pos hS]
    clear hS
    have qH := aI @l0 (aI @l1 (aI @l2 (aI @dF (aI @d3 (aI @dS (aI @g1 @gI)))))); repeat' (with_reducible first | refine nY ?_ | (refine mX ?_; try simp only [go_sem, qH]) | refine kD ?_ | (apply rE [11,12,16] [] [0,1,2,3,4,5,6,7,8,9,10] [0,1,2,3,4,5,6,7,8,9,10] ((.c 11 [] [0,1,2,3,4,5] (.c 12 [13,14,15] [0,13,14,15] (.c 16 [] [] .n .n) .n) .n)) (by simp only [go_sem]; rfl) (by simp only [go_sem]; rfl) (by simp only [go_sem]; rfl) (by decide +kernel); (focus simp only [go_sem]; done)) | exact bA | refine aM (uX ?_) ?_ | refine aN (aX ?_) ?_ | refine aP (aX ?_) ?_ | exact bD | exact oH | exact uB | refine rD ?_ | refine cP cs ?_ | refine aO ?_ | fail)
    exact dK () trivial (by simp only [go_sem, hm] <;> rfl) trivial (by simp only [go_sem, hm, fU, jJ, lJ, jK, List.map_append]; simp) rfl rfl
   ·have dS : decide (w[2] = a0S) = false := by simp [hS]
    have hm : rdI x l = (fU x ⟨w[1], 1⟩, true) := by rw [hmu, if_neg hS]
    clear hS
    have qH := aI @l0 (aI @l1 (aI @l2 (aI @dF (aI @d3 (aI @dS (aI @g1 @gI)))))); repeat' (with_reducible first | refine nY ?_ | (refine mX ?_; try simp only [go_sem, qH]) | refine kD ?_ | (apply rE [11,12,16] [] [0,1,2,3,4,5,6,7,8,9,10] [0,1,2,3,4,5,6,7,8,9,10] ((.c 11 [] [0,1,2,3,4,5] (.c 12 [13,14,15] [0,13,14,15] (.c 16 [] [] .n .n) .n) .n)) (by simp only [go_sem]; rfl) (by simp only [go_sem]; rfl) (by simp only [go_sem]; rfl) (by decide +kernel); (focus simp only [go_sem]; done)) | exact bA | refine aM (uX ?_) ?_ | refine aN (aX ?_) ?_ | refine aP (aX ?_) ?_ | exact bD | exact oH | exact uB | refine rD ?_ | refine cP cs ?_ | refine aO ?_ | fail)
    exact dK () trivial (by simp only [go_sem, hm] <;> rfl) trivial (by simp only [go_sem, hm, fU, jJ, lJ, jK, List.map_append]; simp) rfl rfl
  ·have d3 : decide (((w.length : Nat) : Int) = 3) = false := by rw [decide_eq_false_iff_not]; omega
   have hm : rdI x l = (x, false) := by rw [hmu, if_neg (fun h => h3 h.2), if_neg (fun h => nN h.1), if_neg nI, if_neg (fun h => nD h.1)]
   clear hF
   have q0 := @l0; have q1 := @dF; have q2 := @d3; have q3 := @dN; have q4 := @dI; have q5 := @dD; have q6 := @gI; refine a6d cs ?_
   exact dK () trivial (by simp only [go_sem, hm] <;> rfl) trivial (by simp only [go_sem, hm, fU, jJ, lJ, jK, List.map_append]; simp) rfl rfl
 have dF : decide (w[0] = mI) = false := by simp [hF]
 rw [if_neg (fun h => hF h.1)] at hmu
 by_cases hN : w[0] = nU
 ·have dN : decide (w[0] = nU) = true := by simp [hN]
  have dI : decide (w[0] = wFile') = false := by rw [hN]; decide
  have dD : decide (w[0] = wDir') = false := by rw [hN]; decide
  have nI : ¬ w[0] = wFile' := by simpa using dI
  have nD : ¬ w[0] = wDir' := by simpa using dD
  by_cases h2 : w.length = 2
  ·have d2 : decide (((w.length : Nat) : Int) = 2) = true := by rw [decide_eq_true_iff]; omega
   have l1 : 1 < w.length := by omega
   rw [if_pos ⟨hN, h2⟩, gN l1] at hmu
   have hm := hmu
   have cu := iC w[1]
   clear hN hF
   have q0 := @l0; have q1 := @l1; have q2 := @dF; have q3 := @dN; have q4 := @d2; have q5 := @gI; refine a1X cs cu ?_
   exact dK () trivial (by simp only [go_sem, hm] <;> rfl) trivial (by simp only [go_sem, hm, fU, jJ, lJ, jK, List.map_append]; simp) rfl rfl
  ·have d2 : decide (((w.length : Nat) : Int) = 2) = false := by rw [decide_eq_false_iff_not]; omega
   have hm : rdI x l = (x, false) := by rw [hmu, if_neg (fun h => h2 h.2), if_neg nI, if_neg (fun h => nD h.1)]
   clear hN hF
   have q0 := @l0; have q1 := @dF; have q2 := @dN; have q3 := @d2; have q4 := @dI; have q5 := @dD; have q6 := @gI; refine a6d cs ?_
   exact dK () trivial (by simp only [go_sem, hm] <;> rfl) trivial (by simp only [go_sem, hm, fU, jJ, lJ, jK, List.map_append]; simp) rfl rfl
 have dN : decide (w[0] = nU) = false := by simp [hN]
 rw [if_neg (fun h => hN h.1)] at hmu
 by_cases hI : w[0] = wFile'
 ·have dI : decide (w[0] = wFile') = true := by simp [hI]
  rw [if_pos hI] at hmu
  have hm := hmu
  have cf := a2U w.tail (by rw [List.length_tail]; omega) (fun y hy => hzm y (List.mem_of_mem_tail hy))
  have g1 : x.fStore.fFiles.length + 1 ≤ 140737488355328 := by omega
  have sb : (1 : Int) ≤ ((w.length : Nat) : Int) := by omega
  clear hI hN hF
  have qH := aI @l0 (aI @dF (aI @dN (aI @dI (aI @sb (aI @g1 (aI @a4d (aI @b0T (aI @Int.toNat_natCast @gI)))))))); repeat' (with_reducible first | refine nY ?_ | (refine mX ?_; try simp only [go_sem, qH]) | refine kD ?_ | (apply rE [7,8,12] [] [0,1,2,3,4,5,6] [0,1,2,3,4,5,6] ((.c 7 [] [0,1,2,3,4,5] (.c 8 [9,10,11] [0,9,10,11] (.c 12 [] [] .n .n) .n) .n)) (by simp only [go_sem]; rfl) (by simp only [go_sem]; rfl) (by simp only [go_sem]; rfl) (by decide +kernel); (focus simp only [go_sem]; done)) | exact bA | refine aM (uX ?_) ?_ | refine aN (aX ?_) ?_ | refine aP (aX ?_) ?_ | exact bD | exact oH | (refine uA ?_; simp only [go_sem, qH]; (repeat' first | omega | exact a5m w | refine And.intro ?_ ?_); done) | refine rD ?_ | refine And.intro (a5m w) ?_ | refine cP cs ?_ | refine cP cf ?_ | refine aO ?_ | fail)
  exact dK () trivial (by simp only [go_sem, hm] <;> rfl) trivial (by simp only [go_sem, hm, fU, jJ, lJ, jK, List.map_append]; simp) rfl rfl
 have dI : decide (w[0] = wFile') = false := by simp [hI]
 rw [if_neg hI] at hmu
 by_cases hD : w[0] = wDir'
 ·have dD : decide (w[0] = wDir') = true := by simp [hD]
  by_cases h2 : 2 < w.length
  ·have d2 : decide ((2 : Int) < ((w.length : Nat) : Int)) = true := by rw [decide_eq_true_iff]; omega
   have l1 : 1 < w.length := by omega
   have sb : (2 : Int) ≤ ((w.length : Nat) : Int) := by omega
   rw [if_pos ⟨hD, h2⟩, gN l1] at hmu
   have hm := hmu
   have hnd : w.drop 2 ≠ [] := fun e => by have := congrArg List.length e; rw [List.length_drop] at this; simp at this; omega
   have hcs := b6a (w.drop 2)
   have hzd : zs (w.drop 2) ≤ zs w := by have := zT (w.take 2) (w.drop 2); rw [List.take_append_drop] at this; omega
   have cj := xN (w.drop 2) ⟨#[32]⟩ hnd (by rw [List.length_drop]; omega) (by show (cat 32 (w.drop 2)).size ≤ _; omega)
   have cj : FnC Tryz.prog 92 [.o (.d (.sl ((w.drop 2).map dL))), os ⟨#[32]⟩] (os (cat 32 (w.drop 2))) := cj
   have cq := zQ (cat 32 (w.drop 2)) (by omega)
   have g1 : x.fDirs.length + 1 ≤ 140737488355328 := by omega
   clear hD hI hN hF
   generalize cat 32 (w.drop 2) = tx at *
   have qH := aI @l0 (aI @l1 (aI @dF (aI @dN (aI @dI (aI @dD (aI @d2 (aI @sb (aI @g1 (aI @a4d (aI @b0U (aI @Int.toNat_natCast @gI))))))))))); repeat' (with_reducible first | refine nY ?_ | (refine mX ?_; try simp only [go_sem, qH]) | refine kD ?_ | (apply rE [10,11,14] [] [0,1,2,3,4,5,6,7,8,9] [0,1,2,3,4,5,6,7,8,9] ((.c 10 [] [0,1,2,3,4] (.c 11 [12,13] [0,12,13] (.c 14 [] [] .n .n) .n) .n)) (by simp only [go_sem]; rfl) (by simp only [go_sem]; rfl) (by simp only [go_sem]; rfl) (by decide +kernel); (focus simp only [go_sem]; done)) | exact bA | refine aM (uX ?_) ?_ | refine aN (aX ?_) ?_ | refine aP (aX ?_) ?_ | exact bD | exact oH | (refine uA ?_; simp only [go_sem, qH]; (repeat' first | omega | exact a5m w | refine And.intro ?_ ?_); done) | refine rD ?_ | refine And.intro (a5m w) ?_ | refine cP cs ?_ | refine cP cj ?_ | refine cP cq ?_ | refine aO ?_ | fail)
   exact dK () trivial (by simp only [go_sem, hm] <;> rfl) trivial (by simp only [go_sem, hm, fU, jJ, lJ, jK, List.map_append]; simp) rfl rfl
  ·have d2 : decide ((2 : Int) < ((w.length : Nat) : Int)) = false := by rw [decide_eq_false_iff_not]; omega
   have hm : rdI x l = (x, false) := by rw [hmu, if_neg (fun h => h2 h.2)]
   clear hD hI hN hF
   have q0 := @l0; have q1 := @dF; have q2 := @dN; have q3 := @d2; have q4 := @dI; have q5 := @dD; have q6 := @gI; refine a6d cs ?_
   exact dK () trivial (by simp only [go_sem, hm] <;> rfl) trivial (by simp only [go_sem, hm, fU, jJ, lJ, jK, List.map_append]; simp) rfl rfl
 have dD : decide (w[0] = wDir') = false := by simp [hD]
 have hm : rdI x l = (x, false) := by rw [hmu, if_neg (fun h => hD h.1)]
 clear hD hI hN hF
 have q0 := @l0; have q1 := @dF; have q2 := @dN; have q3 := @dI; have q4 := @dD; have q5 := @gI; refine a0Y cs ?_
 exact dK () trivial (by simp only [go_sem, hm] <;> rfl) trivial (by simp only [go_sem, hm, fU, jJ, lJ, jK, List.map_append]; simp) rfl rfl
end Go.Proofs.YtgpoopjfkplilaaGreatDoor
end
section
set_option maxRecDepth 100000
namespace Go.Proofs.YtgpoopjfkplilaaGreatDoor
open Go Go.Sx Go.Wd Go.RowKit Go.Proofs
theorem wqF : wd mI := ⟨by decide, by decide, by decide⟩
theorem wqN : wd nU := ⟨by decide, by decide, by decide⟩
theorem wqL : wd wFile' := ⟨by decide, by decide, by decide⟩
theorem wqD : wd wDir' := ⟨by decide, by decide, by decide⟩
theorem wqI : wd a9y := ⟨by decide, by decide, by decide⟩
theorem wqS : wd a0S := ⟨by decide, by decide, by decide⟩
theorem b4k {f : TField} (h : aV f.fName 1 = true) (hk : f.fKind = 1 ∨ f.fKind = 2) : fdT f = cat 32 [mI, f.fName, if f.fKind = 1 then a9y else a0S] := by
 rw [fP _ (by simp), fP _ (by simp), oG]
 unfold fdT
 rw [if_pos h]
 rcases hk with hk | hk
 ·rw [if_pos hk, if_pos hk]
  apply lV; simp
 ·have : ¬ f.fKind = 1 := by omega
  rw [if_neg this, if_neg this, if_pos hk]
  apply lV; simp
theorem b7x {f : TField} (h : aV f.fName 1 = true) : ∀ w ∈ [mI, f.fName, if f.fKind = 1 then a9y else a0S], wd w := by
 intro w hw
 simp only [List.mem_cons, List.not_mem_nil, or_false] at hw
 rcases hw with rfl | rfl | rfl
 ·exact wqF
 ·exact a5s h
 ·split
  ·exact wqI
  ·exact wqS
theorem b4l (n : Int) : nxT n = cat 32 [nU, bU n] := by
 rw [fP _ (by simp), oG]
 apply lV; simp [nxT]
theorem b7y {n : Int} (h0 : 0 ≤ n) (h1 : n ≤ 1000000000) : ∀ w ∈ [nU, bU n], wd w := by
 intro w hw
 simp only [List.mem_cons, List.not_mem_nil, or_false] at hw
 rcases hw with rfl | rfl
 ·exact wqN
 ·exact xF h0 h1
def kG (f : TFile) : List ByteArray := [bU f.fID, bU f.fOwner, if f.fShared then ⟨#[115]⟩ else ⟨#[111]⟩, bU f.fLink] ++ eX f.fAttrs
theorem b2K (f : TFile) : xL f = cat 32 (wFile' :: kG f) := rfl
structure Fl (f : TFile) : Prop where
 i : 0 ≤ f.fID ∧ f.fID ≤ 1000000000
 o : 0 ≤ f.fOwner ∧ f.fOwner ≤ 1000000000
 l : 0 ≤ f.fLink ∧ f.fLink ≤ 1000000000
 n : f.fAttrs.length ≤ 5
 a : ∀ a ∈ f.fAttrs, aV a.fName 1 = true ∧ dA a.fValue = true ∧ a.fValue.fKind ≠ 0
theorem Fl.of {s : List TField} {f : TFile} (h : dE s f = true) : Fl f := by
 have hfew := a3X h
 obtain ⟨a, b, c, hs, e⟩ := rW h
 refine ⟨by omega, by omega, by omega, hfew, fun t ht => ?_⟩
 obtain ⟨k, hk, rfl⟩ := List.getElem_of_mem ht
 obtain ⟨m1, m2, m3, _⟩ := rX hs (e k hk).2
 exact ⟨m3, m1, m2⟩
theorem b2L {l : List TAttr} (h : ∀ a ∈ l, aV a.fName 1 = true ∧ dA a.fValue = true ∧ a.fValue.fKind ≠ 0) : ∀ w ∈ eX l, wd w := by
 intro w hw
 unfold eX at hw
 obtain ⟨a, ha, hw⟩ := List.mem_flatMap.1 hw
 obtain ⟨h1, h2, h3⟩ := h a ha
 simp only [List.mem_cons, List.not_mem_nil, or_false] at hw
 rcases hw with rfl | rfl
 ·exact a5s h1
 ·exact b1a h2 h3
theorem Fl.wd {f : TFile} (h : Fl f) : ∀ w ∈ wFile' :: kG f, wd w := by
 intro w hw
 unfold kG at hw
 simp only [List.mem_cons, List.mem_append, List.not_mem_nil, or_false] at hw
 rcases hw with rfl | (rfl | rfl | rfl | rfl) | hw
 ·exact wqL
 ·exact xF h.i.1 h.i.2
 ·exact xF h.o.1 h.o.2
 ·split
  ·exact ⟨by decide, by decide, by decide⟩
  ·exact ⟨by decide, by decide, by decide⟩
 ·exact xF h.l.1 h.l.2
 ·exact b2L h.a w hw
theorem a0t (f : TFile) : (kG f).length = 4 + 2 * f.fAttrs.length := by
 unfold kG
 rw [List.length_append, wN]; rfl
theorem b0P (l : List TAttr) (j : Nat) (h : j < l.length) : part (eX l) (2 * j) = l[j].fName ∧ part (eX l) (2 * j + 1) = jL l[j].fValue := by
 induction l generalizing j with
 | nil => simp at h
 | cons a l ih =>
  have e : eX (a :: l) = a.fName :: jL a.fValue :: eX l := by unfold eX; rw [List.flatMap_cons]; rfl
  rw [e]
  cases j with
  | zero => exact ⟨rfl, rfl⟩
  | succ j => exact ih j (by simpa using h)
theorem a3V (pre : List ByteArray) {l : List TAttr} (h : ∀ a ∈ l, aV a.fName 1 = true ∧ dA a.fValue = true ∧ a.fValue.fKind ≠ 0) : atS (pre ++ eX l) pre.length l.length = l ∧ okS (pre ++ eX l) pre.length l.length = true := by
 have key : ∀ j (hj : j < l.length), part (pre ++ eX l) (pre.length + 2 * j) = l[j].fName ∧ pV (part (pre ++ eX l) (pre.length + 2 * j + 1)) = (l[j].fValue, true) := fun j hj => by
  obtain ⟨e1, e2⟩ := b0P l j hj
  obtain ⟨_, h2, h3⟩ := h _ (List.getElem_mem hj)
  refine ⟨by rw [a8x]; exact e1, ?_⟩
  rw [Nat.add_assoc, a8x, e2]
  exact b4L h2 h3
 constructor
 ·apply List.ext_getElem
  ·exact a9z _ _ _
  ·intro j h1 h2
   obtain ⟨e1, e2⟩ := key j h2
   simp only [atS, List.getElem_map, List.getElem_range]
   rw [e1, e2]
 ·unfold okS
  rw [List.all_eq_true]
  intro j hj
  rw [(key j (List.mem_range.1 hj)).2]
theorem Fl.shared (f : TFile) : decide ((if f.fShared then (⟨#[115]⟩ : ByteArray) else ⟨#[111]⟩) = ⟨#[115]⟩) = f.fShared := by
 cases f.fShared <;> decide
theorem Fl.fileI {f : TFile} (h : Fl f) : fileI (kG f) = (f, true) := by
 have hl := a0t f
 have hd : ((kG f).length - 4) / 2 = f.fAttrs.length := by omega
 have ha := a3V [bU f.fID, bU f.fOwner, if f.fShared then ⟨#[115]⟩ else ⟨#[111]⟩, bU f.fLink] h.a
 have ha : atS (kG f) 4 f.fAttrs.length = f.fAttrs ∧ okS (kG f) 4 f.fAttrs.length = true := ha
 have e0 : part (kG f) 0 = bU f.fID := rfl
 have e1 : part (kG f) 1 = bU f.fOwner := rfl
 have e2 : part (kG f) 2 = if f.fShared then ⟨#[115]⟩ else ⟨#[111]⟩ := rfl
 have e3 : part (kG f) 3 = bU f.fLink := rfl
 unfold Go.Proofs.YtgpoopjfkplilaaGreatDoor.fileI
 rw [if_neg (by omega), hd, ha.1, ha.2, e0, e1, e2, e3, tF h.i.1 h.i.2 rfl, tF h.o.1 h.o.2 rfl, tF h.l.1 h.l.2 rfl, Fl.shared]
 rfl
theorem Fl.fileS {f : TFile} (h : Fl f) : fileS (wFile' :: kG f) = f := by
 have hl := a0t f
 have hd : ((wFile' :: kG f).length - 4) / 2 = f.fAttrs.length := by rw [List.length_cons]; omega
 have ha := a3V [wFile', bU f.fID, bU f.fOwner, if f.fShared then ⟨#[115]⟩ else ⟨#[111]⟩, bU f.fLink] h.a
 have ha : atS (wFile' :: kG f) 5 f.fAttrs.length = f.fAttrs ∧ _ := ha
 have e0 : part (wFile' :: kG f) 1 = bU f.fID := rfl
 have e1 : part (wFile' :: kG f) 2 = bU f.fOwner := rfl
 have e2 : part (wFile' :: kG f) 3 = if f.fShared then ⟨#[115]⟩ else ⟨#[111]⟩ := rfl
 have e3 : part (wFile' :: kG f) 4 = bU f.fLink := rfl
 unfold Go.Proofs.YtgpoopjfkplilaaGreatDoor.fileS
 rw [hd, ha.1, e0, e1, e2, e3, tF h.i.1 h.i.2 rfl, tF h.o.1 h.o.2 rfl, tF h.l.1 h.l.2 rfl, Fl.shared]
structure Dr (d : TDir) : Prop where
 n : aV d.fName 6 = true
 q : okQ d.fQuery = true
theorem Dr.cat {d : TDir} (h : Dr d) : drT d = cat 32 (wDir' :: d.fName :: a4h d.fQuery) := by
 rw [fP _ (by simp), fP _ (a8q h.q), ← b1c h.q]
 apply lV; simp [drT]
theorem Dr.wd {d : TDir} (h : Dr d) : ∀ w ∈ wDir' :: d.fName :: a4h d.fQuery, wd w := by
 intro w hw
 simp only [List.mem_cons] at hw
 rcases hw with rfl | rfl | hw
 ·exact wqD
 ·exact a1c h.n
 ·exact b3d h.q w hw
theorem Dr.two {d : TDir} (h : Dr d) : 2 < (wDir' :: d.fName :: a4h d.fQuery).length := by
 have := List.length_pos_iff.2 (a8q h.q)
 simp only [List.length_cons]; omega
theorem Dr.few {d : TDir} (h : Dr d) (hl : (a4h d.fQuery).length ≤ 19) : sfO (drT d) = true := by
 rw [h.cat]
 exact (b4K h.wd (by simp only [List.length_cons]; omega) (by simp)).1
theorem a0u : ∀ (a b : List ByteArray) (x y : TSnapshot), fI x a = (y, true) → fI x (a ++ b) = fI y b
 | [], b, x, y, h => by cases h; rfl
 | l :: a, b, x, y, h => by
  unfold fI at h
  split at h
  ·rename_i hc
   rw [List.cons_append, fI, if_pos hc]
   exact a0u a b _ y h
  ·cases h
noncomputable def dI (d : TDir) : TDir := ⟨d.fName, (pQI (qtx d.fQuery)).1⟩
noncomputable def dS (d : TDir) : Option TDir := if sfO (drT d) then some ⟨d.fName, (pQS (qtx d.fQuery)).1⟩ else none
theorem filt_all {α : Type} {g : α → Option α} : ∀ {l : List α}, l.filterMap g = l → ∀ d ∈ l, g d = some d
 | [], _, d, hd => by cases hd
 | a :: l, h, d, hd => by
  cases ha : g a with
  | none =>
   rw [List.filterMap_cons_none ha] at h
   have := List.length_filterMap_le g l
   rw [h, List.length_cons] at this
   omega
  | some b =>
   rw [List.filterMap_cons_some ha] at h
   obtain ⟨e, h⟩ := List.cons.inj h
   rcases List.mem_cons.1 hd with rfl | hd
   ·rw [ha, e]
   ·exact filt_all h d hd
theorem b7z {x : TSnapshot} (hx : gZ x = true) : ∀ d ∈ x.fDirs, Dr d := fun d hd => by
 obtain ⟨a, b⟩ := a2A (rY hx).2 hd
 exact ⟨a, b⟩
theorem b5Y {x : TSnapshot} (hx : gZ x = true) : lnX x = lnC x ++ x.fDirs.map drT := by unfold lnX; rw [if_pos hx]
end Go.Proofs.YtgpoopjfkplilaaGreatDoor
end
section
set_option maxRecDepth 100000
set_option maxHeartbeats 4000000
namespace Go.Proofs.YtgpoopjfkplilaaGreatDoor
open Go Go.Sx Go.Wd Go.RowKit Go.Proofs
def eqZ {α : Type} (p : α → α → Bool) : List α → List α → Bool
 | [], [] => true
 | x :: xs, y :: ys => p x y && eqZ p xs ys
 | _, _ => false
theorem a9w {α : Type} (p : α → α → Bool) : ∀ {a b : List α}, a.length ≠ b.length → eqZ p a b = false
 | [], [], h => absurd rfl h
 | x :: xs, y :: ys, h => by
  have := a9w p (a := xs) (b := ys) (by simpa using h)
  simp [eqZ, this]
 | [], y :: ys, _ => rfl
 | x :: xs, [], _ => rfl
def a6W (a b : ByteArray) : Bool := decide (a = b)
theorem b2J : ∀ a b : List ByteArray, eqZ a6W a b = decide (a = b)
 | [], [] => by simp [eqZ]
 | x :: xs, y :: ys => by
  rw [eqZ, b2J xs ys]
  simp only [a6W, List.cons.injEq, Bool.decide_and]
 | [], y :: ys => by simp [eqZ]
 | x :: xs, [] => by simp [eqZ]
theorem a2T (a b : List ByteArray) (ha : a.length ≤ 4300000) : FnC Tryz.prog 53 [.o (.d (.sl (a.map dL))), .o (.d (.sl (b.map dL)))] (ob (eqZ a6W a b)) := by
 have hal : a.length ≤ 4300000 := by omega
 refine ent Tryz.func53 rfl Tryz.call53 rfl (fun C => ?_); simp only [go_sem, st0, Tryz.ntmps53]
 refine aD ?_
 refine cnd rfl (fun h0 => ?_) (fun h0 => ?_)
 ·have e : eqZ a6W a b = false := a9w _ (by simp only [Bool.not_eq_true', decide_eq_false_iff_not] at h0; omega)
  refine aD ?_
  exact aA ⟨⟨_, rfl, by simp only [go_sem, e]⟩, trivial⟩
 have h0 : a.length = b.length := by simpa [Int.ofNat_inj] using h0
 refine aD ?_
 refine dB (α := Nat) (fun k => [(13, oi k)]) (fun _ => []) (fun k => k ≤ a.length ∧ eqZ a6W a b = eqZ a6W (a.drop k) (b.drop k)) (fun k => a.length - k) 0 (fun _ => ?_) ?_ ?_ (fun k hk => ?_)
 ·simp only [go_sem]
 ·simp only [go_sem]; simp
 ·simp
 ·obtain ⟨hk, hq⟩ := hk
  simp only [go_sem]
  refine aD ?_
  refine cnd rfl (fun h => ?_) (fun h => ?_)
  ·simp only [decide_eq_true_eq, Int.ofNat_lt] at h
   have hb : k < b.length := by omega
   rw [List.drop_eq_getElem_cons h, List.drop_eq_getElem_cons hb, eqZ] at hq
   have q0 := @h; have q1 := @hb; refine jM ?_
   refine cnd (b := !(a6W a[k] b[k])) (by simp [a6W]; try rfl) (fun h2 => ?_) (fun h2 => ?_)
   ·simp only [Bool.not_eq_true'] at h2
    rw [h2, Bool.false_and] at hq
    refine aD ?_
    exact aA ⟨⟨_, rfl, by simp only [go_sem, hq]⟩, trivial⟩
   ·simp only [Bool.not_eq_false'] at h2
    rw [h2, Bool.true_and] at hq
    refine aD ?_
    refine aQ (k + 1) ?_ ?_ ?_
    ·simp only [go_sem]; simp
    ·exact ⟨h, hq⟩
    ·omega
  ·simp only [decide_eq_false_iff_not] at h
   have e : k = a.length := by omega
   subst e
   rw [List.drop_length, List.drop_of_length_le (by omega), eqZ] at hq
   refine aD ?_
   exact aA ⟨⟨_, rfl, by simp only [go_sem, hq]⟩, trivial⟩
theorem a5j (a b : List ByteArray) (ha : a.length ≤ 4300000) : FnC Tryz.prog 53 [.o (.d (.sl (a.map dL))), .o (.d (.sl (b.map dL)))] (ob (decide (a = b))) := by
 have := a2T a b ha
 rw [b2J] at this; exact this
theorem a8l (x : TSnapshot) : (lnX x).length ≤ bM x + 1 := by
 unfold lnX
 split
 ·unfold lnC lnB lnA bM eD bB iR jR
  simp only [List.length_append, List.length_map, List.length_cons, List.length_nil]
  omega
 ·simp
theorem b0O {a b : List ByteArray} {l : ByteArray} {x y : TSnapshot} (h : fI x a = (y, true)) (hl : (rdI y l).2 = false) : (fI x (a ++ l :: b)).2 = false := by
 rw [a0u a _ x y h, fI, hl]; rfl
noncomputable abbrev rDX (r : TSnapshot × Bool) : SV := .t [(true, [.w 81 2 (r.1.fStore.fSchema.map bY), .w 86 5 (r.1.fStore.fFiles.map dX), .d (iv r.1.fStore.fNextID), .w 90 2 (r.1.fDirs.map eP)]), (false, [.d (bv r.2)])]
theorem a2y (ls : List ByteArray) (hz : zs ls ≤ 1048576) : FnC Tryz.prog 22 [.o (.d (.sl (ls.map dL)))] (rDX (dcI ls)) := by
 refine ent Tryz.func22 rfl Tryz.call22 rfl (fun C => ?_); simp only [go_sem, st0, Tryz.ntmps22]
 have hzl := a1A ls
 have q0 := @gI; refine iW ?_
 refine uY 1 0 81 2 rfl rfl ?_
 simp only [go_sem]
 refine uY 1 1 86 5 rfl rfl ?_
 simp only [go_sem]
 refine uY 1 3 90 2 rfl rfl ?_
 simp only [go_sem]
 refine b7C [(0,1),(1,2),(2,3),(3,4)] rfl ?_
 simp only [go_sem]
 refine dB (α := Nat) (fun k => [(10, oi k), (6, .o .u)]) (fun k => [(0, .box 31 [.s 1, .s 2, .d (iv (fI x0 (ls.take k)).1.fStore.fNextID), .s 3]), (1, .row 81 2 ((fI x0 (ls.take k)).1.fStore.fSchema.map bY) true), (2, .row 86 5 ((fI x0 (ls.take k)).1.fStore.fFiles.map dX) true), (3, .row 90 2 ((fI x0 (ls.take k)).1.fDirs.map eP) true)]) (fun k => k ≤ ls.length ∧ (fI x0 (ls.take k)).2 = true) (fun k => ls.length - k) 0 (fun _ => ?_) ?_ ?_ (fun k hk => ?_)
 ·simp only [go_sem]
 ·simp only [go_sem]; simp [fI, x0]
 ·simp [fI]
 obtain ⟨hk, hq⟩ := hk
 have hf : fI x0 (ls.take k) = ((fI x0 (ls.take k)).1, true) := Prod.ext rfl hq
 have hw := a9x (ls.take k) x0 hq
 rw [b8I] at hw
 have hzt : zs (ls.take k) ≤ zs ls := by have := zT (ls.take k) (ls.drop k); rw [List.take_append_drop] at this; omega
 simp only [go_sem]
 generalize hX : (fI x0 (ls.take k)).1 = x at *
 have q0 := @gI; refine iW ?_
 refine cnd rfl (fun h => ?_) (fun h => ?_)
 ·simp only [decide_eq_true_eq, Int.ofNat_lt] at h
  have hsz := a4k (List.getElem_mem h)
  have hw' := hw
  unfold bM eD bB iR jR at hw'
  have cr := a7d x ls[k] (by omega) (by omega) (by omega) (by omega)
  have hnx : ls.take (k + 1) = ls.take k ++ [ls[k]] := List.take_succ_eq_append_getElem h
  have hsp : ls = ls.take k ++ ls[k] :: ls.drop (k + 1) := by rw [← List.drop_eq_getElem_cons h, List.take_append_drop]
  cases hr : (rdI x ls[k]).2
  ·have hb : (fI x0 ls).2 = false := by rw [hsp]; exact b0O hf hr
   have e : dcI ls = (x0, false) := by unfold dcI; rw [hb]; rfl
   rw [hr] at cr
   have q0 := @h; have q1 := @gI; refine jM ?_
   refine kU cr _ rfl rfl rfl ?_
   rintro ⟨⟩ _
   simp only [go_sem]
   have q0 := @Bool.not_false; refine iW ?_
   exact aA ⟨⟨_, rfl, by simp only [go_sem, e, x0]⟩, by simp [bW]⟩
  ·have hnf : fI x0 (ls.take (k + 1)) = ((rdI x ls[k]).1, true) := by
    rw [hnx, a0u _ _ _ _ hf, fI, hr, if_pos rfl]; rfl
   rw [hr] at cr
   generalize rdI x ls[k] = y at *
   have hy : (fI x0 (ls.take (k + 1))).1 = y.1 := by rw [hnf]
   have q0 := @h; have q1 := @gI; refine jM ?_
   refine kU cr _ rfl rfl rfl ?_
   rintro ⟨⟩ _
   simp only [go_sem]
   have q0 := @Bool.not_true; refine iW ?_
   refine aQ (k + 1) ?_ ?_ ?_
   ·simp only [go_sem, hy]; simp
   ·exact ⟨h, by rw [hnf]⟩
   ·omega
 ·simp only [decide_eq_false_iff_not, Int.ofNat_lt] at h
  have ek : k = ls.length := by omega
  subst ek
  rw [List.take_length] at hf hX
  have cv := oO x (by omega)
  have hd : dcI ls = if gZ x && decide (lnX x = ls) then (x, true) else (x0, false) := by unfold dcI; rw [hf, Bool.true_and]
  cases ho : gZ x
  ·have e : dcI ls = (x0, false) := by rw [hd, ho]; rfl
   rw [ho] at cv
   have qH := @Bool.not_false; repeat' (with_reducible first | refine nY ?_ | (refine mX ?_; try simp only [go_sem, qH]) | refine kD ?_ | refine rD ?_ | refine vL cv ?_ | refine aO ?_ | fail)
   exact aA ⟨⟨_, rfl, by simp only [go_sem, e, x0]⟩, by simp [bW]⟩
  ·have hx := a3Y ho (by omega)
   have ce := a1C x hx
   have hln := a8l x
   have ct := a5j (lnX x) ls (by omega)
   rw [ho] at cv
   cases hq2 : decide (lnX x = ls)
   ·have e : dcI ls = (x0, false) := by rw [hd, ho, hq2]; rfl
    rw [hq2] at ct
    generalize lnX x = lx at *
    have qH := aI @Bool.not_false @Bool.not_true; repeat' (with_reducible first | refine nY ?_ | (refine mX ?_; try simp only [go_sem, qH]) | refine kD ?_ | refine rD ?_ | refine vL cv ?_ | refine vL ce ?_ | refine vL ct ?_ | refine aO ?_ | fail)
    exact aA ⟨⟨_, rfl, by simp only [go_sem, e, x0]⟩, by simp [bW]⟩
   ·have e : dcI ls = (x, true) := by rw [hd, ho, hq2]; rfl
    rw [hq2] at ct
    generalize lnX x = lx at *
    have qH := aI @Bool.not_false @Bool.not_true; repeat' (with_reducible first | refine nY ?_ | (refine mX ?_; try simp only [go_sem, qH]) | refine kD ?_ | refine rD ?_ | refine vL cv ?_ | refine vL ce ?_ | refine vL ct ?_ | refine aO ?_ | fail)
    exact aA ⟨⟨_, rfl, by simp only [go_sem, e]⟩, by simp [bW]⟩
theorem a0O {l : List Int} (hl : iM l) : Drw l 83 [] (fun x : TSnapshot => storeA x.fStore ∧ dirsD 6 x.fDirs) (fun x => jC x) := by
 intro i h hi hh; refine oD Tryz.func83 rfl Tryz.call83 rfl (fun C b => ?_); simp only [go_sem, Tryz.ntmps83]
 refine aD ?_
 first | (refine aU (oQ hl i h hi hh) ⟨rfl, rfl⟩ ?_ rfl ?_; (focus first | rfl | (simp only [go_sem]; done))) | (refine hZ (oQ hl i h hi hh) ⟨rfl, rfl⟩ ?_ rfl ?_; (focus first | rfl | (simp only [go_sem]; done)))
 clear hi hh; rintro ⟨s, i, h⟩ ⟨hs, hi, hh⟩; simp only at hs hi hh; simp only [go_sem]
 have hsA := a0r hs
 clear hs
 refine aD ?_
 first | (refine aU (a2r hl i h hi hh) ⟨rfl, rfl⟩ ?_ rfl ?_; (focus first | rfl | (simp only [go_sem]; done))) | (refine hZ (a2r hl i h hi hh) ⟨rfl, rfl⟩ ?_ rfl ?_; (focus first | rfl | (simp only [go_sem]; done)))
 clear hi hh; rintro ⟨d, i, h⟩ ⟨hd, hi, hh⟩; simp only at hd hi hh; simp only [go_sem]
 refine aD ?_
 first | refine dW (Sees.frz 2 rfl) ?_ | refine dW (Sees.frz 3 rfl) ?_
 simp only [go_sem]
 exact aJ ((⟨s, d⟩ : TSnapshot), i, h) ⟨⟨_, rfl, by simp only [go_sem]⟩, by simp [bW]⟩ ⟨(show storeA s ∧ dirsD 6 d from ⟨hsA, hd.1⟩), ⟨hi, hh⟩⟩ (by simp only [go_sem])
theorem a3G {l : List Int} (hl : iM l) : Drw l 45 [] (fun x : TSnapshot => storeA x.fStore ∧ dirsD 6 x.fDirs) (fun x => jC x) := by
 intro i h hi hh; refine oD Tryz.func45 rfl Tryz.call45 rfl (fun C b => ?_); simp only [go_sem, Tryz.ntmps45]
 refine aD ?_
 first | (refine aU (a0O hl i h hi hh) ⟨rfl, rfl⟩ ?_ rfl ?_; (focus first | rfl | (simp only [go_sem]; done))) | (refine hZ (a0O hl i h hi hh) ⟨rfl, rfl⟩ ?_ rfl ?_; (focus first | rfl | (simp only [go_sem]; done)))
 clear hi hh; rintro ⟨x, i, h⟩ ⟨hx, hi, hh⟩; simp only at hx hi hh; simp only [go_sem]
 obtain ⟨s, d⟩ := x
 obtain ⟨hsA, hd⟩ := hx
 simp only at hsA hd
 refine aD ?_
 first | (refine aU (aH hl 8 (by decide) (by decide) i h hi hh) ⟨rfl, rfl⟩ ?_ rfl ?_; (focus first | rfl | (simp only [go_sem]; done))) | (refine hZ (aH hl 8 (by decide) (by decide) i h hi hh) ⟨rfl, rfl⟩ ?_ rfl ?_; (focus first | rfl | (simp only [go_sem]; done)))
 clear hi hh; rintro ⟨c, i, h⟩ ⟨hc, hi, hh⟩; simp only at hc hi hh; simp only [go_sem]
 have h5 : c = 0 ∨ c = 1 ∨ (¬ c = 0 ∧ ¬ c = 1) := by omega
 rcases h5 with rfl | rfl | ⟨k0, k1⟩
 ·clear hsA
  refine aD ?_
  first | (refine aU (a3K hl i h hi hh) ⟨rfl, rfl⟩ ?_ rfl ?_; (focus first | rfl | (simp only [go_sem]; done))) | (refine hZ (a3K hl i h hi hh) ⟨rfl, rfl⟩ ?_ rfl ?_; (focus first | rfl | (simp only [go_sem]; done)))
  clear hi hh; rintro ⟨s2, i, h⟩ ⟨hs2, hi, hh⟩; simp only at hs2 hi hh; simp only [go_sem]
  refine aD ?_
  first | refine dW (Sees.frz 2 rfl) ?_ | refine dW (Sees.frz 3 rfl) ?_ | refine dW (Sees.frz 4 rfl) ?_
  simp only [go_sem]
  exact aJ ((⟨s2, d⟩ : TSnapshot), i, h) ⟨⟨_, rfl, by simp only [go_sem]⟩, by simp [bW]⟩ ⟨(show storeA s2 ∧ dirsD 6 d from ⟨hs2, hd⟩), ⟨hi, hh⟩⟩ (by simp only [go_sem])
 ·clear hd
  refine aD ?_
  first | (refine aU (a3I hl i h hi hh) ⟨rfl, rfl⟩ ?_ rfl ?_; (focus first | rfl | (simp only [go_sem]; done))) | (refine hZ (a3I hl i h hi hh) ⟨rfl, rfl⟩ ?_ rfl ?_; (focus first | rfl | (simp only [go_sem]; done)))
  clear hi hh; rintro ⟨d2, i, h⟩ ⟨hd2, hi, hh⟩; simp only at hd2 hi hh; simp only [go_sem]
  refine aD ?_
  exact aJ ((⟨s, d2⟩ : TSnapshot), i, h) ⟨⟨_, rfl, by simp only [go_sem]⟩, by simp [bW]⟩ ⟨(show storeA s ∧ dirsD 6 d2 from ⟨hsA, hd2⟩), ⟨hi, hh⟩⟩ (by simp only [go_sem])
 ·have d0 : decide (c = 0) = false := by simp [k0]
  have d1 : decide (c = 1) = false := by simp [k1]
  have q0 := @d0; have q1 := @d1; refine jM ?_
  exact aJ ((⟨s, d⟩ : TSnapshot), i, h) ⟨⟨_, rfl, by simp only [go_sem]⟩, by simp [bW]⟩ ⟨(show storeA s ∧ dirsD 6 d from ⟨hsA, hd⟩), ⟨hi, hh⟩⟩ (by simp only [go_sem])
theorem a8a {l : List Int} (hl : iM l) : FnX Tryz.prog 20 [.o (.d (.sl (l.map uN)))] (fun x : TSnapshot => storeA x.fStore ∧ dirsD 6 x.fDirs) (fun x => jC x) := by
 refine b8E Tryz.func20 rfl Tryz.call20 rfl (fun C => ?_); simp only [go_sem, st0, Tryz.ntmps20]
 refine aD ?_
 refine b7q (b0H l hl.1 hl.2) rfl rfl ?_
 intro h hh
 simp only [go_sem]
 refine aD ?_
 first | (refine aU (a3G hl 0 h (Nat.zero_le _) hh) ⟨rfl, rfl⟩ ?_ rfl ?_; (focus first | rfl | (simp only [go_sem]; done))) | (refine hZ (a3G hl 0 h (Nat.zero_le _) hh) ⟨rfl, rfl⟩ ?_ rfl ?_; (focus first | rfl | (simp only [go_sem]; done)))
 clear hh; rintro ⟨⟨s, d⟩, i, h⟩ ⟨⟨hsA, hd⟩, hi, hh⟩; simp only at hsA hd hi hh; simp only [go_sem]
 refine aD ?_
 exact b2B (⟨s, d⟩ : TSnapshot) ⟨⟨_, rfl, by simp only [go_sem]; try simp⟩, by simp [bW]⟩ ⟨hsA, hd⟩
end Go.Proofs.YtgpoopjfkplilaaGreatDoor
end
section
set_option maxRecDepth 100000
namespace Go.Proofs.YtgpoopjfkplilaaGreatDoor
open Go Go.Sx Go.Wd Go.RowKit Go.Proofs
abbrev sI : ByteArray := ⟨#[119, 97, 108, 107]⟩
theorem b2U (x : TSnapshot) : rdI x sI = (x, false) := by
 have e : pieces 32 sI = [sI] := by decide
 rw [b2T e, if_neg (fun h => absurd h.1 (by decide)), if_neg (fun h => absurd h.1 (by decide)), if_neg (by decide), if_neg (fun h => absurd h.1 (by decide))]
theorem a2D : ∀ (a : List ByteArray) (x : TSnapshot), (fI x (a ++ [sI])).2 = false
 | [], x => by rw [List.nil_append, fI, b2U]; rfl
 | l :: a, x => by
  rw [List.cons_append, fI]
  split
  ·exact a2D a _
  ·rfl
theorem a7e (a : List ByteArray) : dcI (a ++ [sI]) = (x0, false) := by
 unfold dcI
 rw [a2D]; rfl
theorem b4H (q : List TNode) : ∀ k i, sz q k i + 1 ≤ 2 ^ k
 | 0, _ => by simp [sz]
 | k + 1, i => by
  have h1 := fun j => b4H q k j
  have p1 : 1 ≤ 2 ^ k := Nat.one_le_two_pow
  have p2 : 2 ^ (k + 1) = 2 * 2 ^ k := by rw [Nat.pow_succ]; omega
  unfold sz
  split
  ·omega
  ·rename_i n _
   have a := h1 n.fLeft.toNat
   have b := h1 n.fRight.toNat
   repeat' split
   all_goals omega
theorem b2V {q : List TNode} (hv : okQ q = true) : (a4h q).length ≤ 2048 := by
 have hl := iI hv
 have h1 := a7j q q.length (q.length - 1)
 have h2 := b4H q q.length (q.length - 1)
 have h3 : 2 ^ q.length ≤ 2 ^ 10 := Nat.pow_le_pow_right (by omega) (by omega)
 have h4 : (2 : Nat) ^ 10 = 1024 := rfl
 unfold a4h
 omega
theorem a8o {ls : List ByteArray} {n : Nat} (h : ∀ l ∈ ls, l.size + 1 ≤ n) : zs ls ≤ n * ls.length := by
 induction ls with
 | nil => simp [wL]
 | cons x a ih =>
  have h1 := h x (by simp)
  have h2 := ih (fun w hw => h w (List.mem_cons_of_mem _ hw))
  rw [jA, List.length_cons, Nat.mul_succ]; omega
theorem a5n {ws : List ByteArray} (h : ∀ w ∈ ws, wd w) (h0 : ws ≠ []) : (cat 32 ws).size + 1 ≤ 11 * ws.length := by
 have := xG h0
 have := b4v h
 omega
theorem b6g (x : TSnapshot) : zs (lnX x) ≤ 200000 := by
 unfold lnX
 split
 ·rename_i hx
  obtain ⟨h1, h2⟩ := rY hx
  obtain ⟨hs, hn⟩ := uS h1
  have hsl : x.fStore.fSchema.length ≤ 5 := by
   unfold okSchema at hs
   simp only [Bool.and_eq_true, decide_eq_true_eq] at hs
   omega
  have hfl : x.fStore.fFiles.length ≤ 12 := by
   unfold bL at h1
   simp only [Bool.and_eq_true, decide_eq_true_eq] at h1
   omega
  have hdl : x.fDirs.length ≤ 5 := by
   unfold dJ at h2
   simp only [Bool.and_eq_true, decide_eq_true_eq] at h2
   omega
  have a1 := a8o (ls := x.fStore.fSchema.map fdT) (n := 33) fun l hl => by
   obtain ⟨f, hf, rfl⟩ := List.mem_map.1 hl
   obtain ⟨p, q⟩ := rR hs hf
   rw [b4k p q]
   exact a5n (b7x p) (by simp)
  have a2 : zs [nxT x.fStore.fNextID] ≤ 22 := by
   rw [jA, wL, b4l]
   have := a5n (b7y (n := x.fStore.fNextID) (by omega) (by omega)) (by simp)
   simp only [List.length_cons, List.length_nil] at this
   omega
  have a3 := a8o (ls := x.fStore.fFiles.map xL) (n := 165) fun l hl => by
   obtain ⟨f, hf, rfl⟩ := List.mem_map.1 hl
   have hF := Fl.of (zM h1 hf)
   rw [b2K]
   have := a5n hF.wd (by simp)
   have hw := a0t f
   have hn := hF.n
   rw [List.length_cons] at this
   omega
  have a4 := a8o (ls := x.fDirs.map drT) (n := 22550) fun l hl => by
   obtain ⟨d, hd, rfl⟩ := List.mem_map.1 hl
   have hD := b7z hx d hd
   rw [hD.cat]
   have := a5n hD.wd (by simp)
   have ht := b2V hD.q
   simp only [List.length_cons] at this
   omega
  unfold lnC lnB lnA
  rw [zT, zT, zT]
  simp only [List.length_map] at a1 a3 a4
  have m1 : 33 * x.fStore.fSchema.length ≤ 33 * 5 := Nat.mul_le_mul_left _ hsl
  have m3 : 165 * x.fStore.fFiles.length ≤ 165 * 12 := Nat.mul_le_mul_left _ hfl
  have m4 : 22550 * x.fDirs.length ≤ 22550 * 5 := Nat.mul_le_mul_left _ hdl
  omega
 ·rw [wL]; omega
theorem b0V {x : TSnapshot} (hx : gZ x = true) : (lnX x).length = 1 + x.fStore.fSchema.length + x.fStore.fFiles.length + x.fDirs.length := by
 rw [b5Y hx]
 unfold lnC lnB lnA
 simp only [List.length_append, List.length_map, List.length_cons, List.length_nil]
 omega
end Go.Proofs.YtgpoopjfkplilaaGreatDoor
end
