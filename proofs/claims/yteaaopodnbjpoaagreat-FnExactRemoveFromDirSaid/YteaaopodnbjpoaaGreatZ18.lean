/- Joined texts. -/
import Derived.Test.YteaaopodnbjpoaaGreatZ16
import Derived.Test.YteaaopodnbjpoaaGreatZ11
import Derived.Test.YteaaopodnbjpoaaGreatZ17
import Derived.Test.YteaaopodnbjpoaaGreatZ10
import Derived.Test.YteaaopodnbjpoaaGreatZ03
import Derived.Laws.IdiomCopy
import Derived.Deep.AppendSrc
import Derived.Shelf.RegionOpenPlain
import Derived.WalkKit
import Derived.Lib.Walk
import Derived.Lib.SliceRun
import Derived.Lib.JoinLaws
import Derived.Lib.AppendZeros
import Derived.Lib.AppendZerosOnto
import Derived.Lib.Overlaps
import Derived.Laws.Externs
import Derived.Laws.NewBlocks
import Derived.Shelf.Spec.SlicesInsertGrow
import Derived.Test.YteaaopodnbjpoaaGreatZ12
set_option linter.all false
section
set_option maxRecDepth 100000
set_option maxHeartbeats 4000000
namespace Go.Proofs.YteaaopodnbjpoaaGreat
open Go Go.Sx Go.RowKit Go.Proofs
theorem a9G (l : List TDir) (a b : TFile) (h : aY l + (wFile a + wFile b) ≤ 4300000) : FnC Tryz.prog 180 [.o (.d (.sl (l.map aS))), bC a, bC b] (.o (.d (.sl ((a8j a b l).map dD)))) := (b1J l a b h).pu (by simp only [go_sem, and_self])
theorem a9H (l : List TDir) (a b : TFile) (h : aY l + (wFile a + wFile b) ≤ 4300000) : FnC Tryz.prog 157 [.o (.d (.sl (l.map aS))), bC a, bC b] (.o (.d (.sl ((a8j a b l).map dD)))) := (b1K l a b h).pu (by simp only [go_sem, and_self])
theorem a9I (a b : TFile) (l : List TDir) : (a8j a b l).length ≤ aY l := by have := b8K a b l; unfold tV at this; omega
theorem jR (s : TStore) (f : TFile) (hs : aL s ≤ 4300000) (hf : wFile f ≤ 4300000) : FnC Tryz.prog 137 [cB s, bC f] (.t [(true, (cB (jH s f)).cells), (false, [.d (bv (iP s f))])]) := (a4u s f hs hf).pu (by simp only [go_sem, and_self])
theorem iG (s : TStore) (id : Int) (h : aL s ≤ 4300000) : FnC Tryz.prog 84 [cB s, oi id] (.t [(true, (bC (dJ id s.fFiles)).cells), (false, [.d (bv (decide (0 ≤ ixF id s.fFiles)))])]) := (a9r s id h).pu (by simp only [go_sem, and_self])
theorem fZ (s : TStore) (id : Int) (h : aL s ≤ 4300000) : FnC Tryz.prog 104 [cB s, oi id] (.t [(true, (bC (dJ id s.fFiles)).cells), (false, [.d (bv (decide (0 ≤ ixF id s.fFiles)))])]) := (a9q s id h).pu (by simp only [go_sem, and_self])
noncomputable def mK (c : TCatalog) (f : TFile) : Bool := curB c && iP c.fStore f
def a3v (c : TCatalog) (f : TFile) : List ByteArray := a8j (dJ f.fID c.fStore.fFiles) f c.fDirs
noncomputable def mW (c : TCatalog) (f : TFile) : TCatalog := goC (mK c f) c (jH c.fStore f) c.fDirs (a3v c f)
noncomputable def a6f (c : TCatalog) (f : TFile) : List TDiff := goD (mK c f) c (jH c.fStore f) c.fDirs (a3v c f)
theorem sN (c : TCatalog) (f : TFile) (h : wCatalog c + wFile f ≤ 4300000) : FnC Tryz.prog 106 [bZ c, bC f] (.t [(true, (mG (mW c f)).cells), (false, [.w 100 3 ((a6f c f).map jW)]), (false, [.d (bv (mK c f))])]) := by
 have hc : wCatalog c = aL c.fStore + aY c.fDirs + aG c.fResults := rfl
 have hs : aL c.fStore = aN c.fStore.fSchema + cZ c.fStore.fFiles := rfl
 have hw := qO c.fStore f
 have hn : (a3v c f).length ≤ 4300000 := by have := a9I (dJ f.fID c.fStore.fFiles) f c.fDirs; unfold a3v; omega
 have hfw := vU f.fID c.fStore.fFiles
 refine ent Tryz.func106 rfl Tryz.call106 rfl (fun C => ?_); simp only [go_sem, st0, Tryz.ntmps106]
 cases h2 : iP c.fStore f
 ·have e : mK c f = false := by simp [mK, h2]
  have q0 := @h2; refine b9l (qN c.fStore f (by omega) (by omega)) (jM c (by omega)) (gL c (by omega)) ?_
  exact aA ⟨⟨_, rfl, by simp only [go_sem, mW, a6f, e, a4R, a4S, List.map_nil]; try simp⟩, by simp [aU]⟩
 cases h1 : curB c
 ·have e : mK c f = false := by simp [mK, h1]
  have q0 := @h1; have q1 := @h2; refine b9m (qN c.fStore f (by omega) (by omega)) (jM c (by omega)) (gL c (by omega)) ?_
  exact aA ⟨⟨_, rfl, by simp only [go_sem, mW, a6f, e, a4R, a4S, List.map_nil]; try simp⟩, by simp [aU]⟩
 ·have e : mK c f = true := by simp [mK, h1, h2]
  have hev : evB (jH c.fStore f) c.fDirs = true := by unfold evB; rw [b9B h1, b8v h2]; rfl
  have hk := b7i c (jH c.fStore f) c.fDirs (a3v c f) hev (by omega) (by omega) (by omega) hn
  have ha := a9G c.fDirs (dJ f.fID c.fStore.fFiles) f (by omega)
  unfold a3v at hk
  have qH := aI @h1 @h2; repeat' (with_reducible first | refine nY ?_ | (refine mX ?_; try simp only [go_sem, qH]) | refine kD ?_ | (apply rE [8,9,13] [] [0,1,2,3,4,5,6,7] [0,1,2,3,4,5,6,7] ((.c 8 [] [0,1,2,3] (.c 9 [10,11,12] [10,11,12] (.c 13 [14,15] [14,15] .n .n) .n) .n)) (by simp only [go_sem]; rfl) (by simp only [go_sem]; rfl) (by simp only [go_sem]; rfl) (by decide +kernel); (focus simp only [go_sem]; done)) | exact bU | refine bF (uX ?_) ?_ | refine bG (aX ?_) ?_ | refine bH (aX ?_) ?_ | exact bE | exact oH | exact uB | refine rD ?_ | refine cP (qN c.fStore f (by omega) (by omega)) ?_ | refine cP (jM c (by omega)) ?_ | refine cP (fZ c.fStore f.fID (by omega)) ?_ | refine cP ha ?_ | refine cP hk ?_ | refine aO ?_ | fail)
  exact aA ⟨⟨_, rfl, by simp only [go_sem, mW, a6f, a3v, e]; try simp⟩, by simp [aU]⟩
theorem a0c (c : TCatalog) (f : TFile) (h : wCatalog c + wFile f ≤ 4300000) : FnC Tryz.prog 85 [bZ c, bC f] (.t [(true, (bZ (mW c f)).cells), (false, [.d (.sl ((a6f c f).map jW))]), (false, [.d (bv (mK c f))])]) := by
 have hc : wCatalog c = aL c.fStore + aY c.fDirs + aG c.fResults := rfl
 have hs : aL c.fStore = aN c.fStore.fSchema + cZ c.fStore.fFiles := rfl
 have hw := qO c.fStore f
 have hn : (a3v c f).length ≤ 4300000 := by have := a9I (dJ f.fID c.fStore.fFiles) f c.fDirs; unfold a3v; omega
 have hfw := vU f.fID c.fStore.fFiles
 refine ent Tryz.func85 rfl Tryz.call85 rfl (fun C => ?_); simp only [go_sem, st0, Tryz.ntmps85]
 cases h1 : curB c
 ·have e : mK c f = false := by simp [mK, h1]
  have q0 := @h1; refine b8r (nO c (by omega)) (iG c.fStore f.fID (by omega)) (jR c.fStore f (by omega) (by omega)) (lU c (by omega)) ?_
  first | refine aK (Sees.frz 1 rfl) ?_ | refine aK (Sees.frz 2 rfl) ?_ | refine aK (Sees.frz 3 rfl) ?_ | refine aK (Sees.frz 4 rfl) ?_ | refine aK (Sees.frz 5 rfl) ?_
  simp only [go_sem]
  exact aA ⟨⟨_, rfl, by simp only [go_sem, mW, a6f, e, a4R, a4S, List.map_nil]; try simp⟩, by simp [aU]⟩
 cases h2 : iP c.fStore f
 ·have e : mK c f = false := by simp [mK, h2]
  have q0 := @h1; have q1 := @h2; refine b3x (nO c (by omega)) (iG c.fStore f.fID (by omega)) (jR c.fStore f (by omega) (by omega)) (lU c (by omega)) ?_
  first | refine aK (Sees.frz 1 rfl) ?_ | refine aK (Sees.frz 2 rfl) ?_ | refine aK (Sees.frz 3 rfl) ?_ | refine aK (Sees.frz 4 rfl) ?_ | refine aK (Sees.frz 5 rfl) ?_
  simp only [go_sem]
  exact aA ⟨⟨_, rfl, by simp only [go_sem, mW, a6f, e, a4R, a4S, List.map_nil]; try simp⟩, by simp [aU]⟩
 ·have e : mK c f = true := by simp [mK, h1, h2]
  have ha := a9H c.fDirs (dJ f.fID c.fStore.fFiles) f (by omega)
  have hk := a7T c (jH c.fStore f) c.fDirs (a3v c f) (by omega) (by omega) (by omega) hn
  unfold a3v at hk
  have qH := aI @h1 @h2; repeat' (with_reducible first | refine nY ?_ | (refine mX ?_; try simp only [go_sem, qH]) | refine kD ?_ | (apply rE [8,9,13,14] [] [0,1,2,3,4,5,6,7] [0,1,2,3,4,5,6,7] ((.c 8 [] [0,1,2,3] (.c 9 [10,11,12] [10,11,12] (.c 13 [] [10,11,12] (.c 14 [15] [12,15] .n .n) .n) (.c 13 [] [0,1,2,3] (.c 9 [10,11,12] [10,11,12] (.c 14 [15] [12,15] .n .n) .n) .n)) (.c 13 [] [0,1,2,3,4,5,6,7] (.c 8 [] [0,1,2,3] (.c 9 [10,11,12] [10,11,12] (.c 14 [15] [12,15] .n .n) .n) .n) .n))) (by simp only [go_sem]; rfl) (by simp only [go_sem]; rfl) (by simp only [go_sem]; rfl) (by decide +kernel); (focus simp only [go_sem]; done)) | exact bU | refine bF (uX ?_) ?_ | refine bG (aX ?_) ?_ | refine bH (aX ?_) ?_ | exact bE | exact oH | exact uB | refine rD ?_ | refine cP (nO c (by omega)) ?_ | refine cP (iG c.fStore f.fID (by omega)) ?_ | refine cP (jR c.fStore f (by omega) (by omega)) ?_ | refine cP (lU c (by omega)) ?_ | refine cP ha ?_ | refine cP hk ?_ | refine aO ?_ | fail)
  exact aA ⟨⟨_, rfl, by simp only [go_sem, mW, a6f, a3v, e, b2C, b2D]; try simp⟩, by simp [aU]⟩
theorem b9z (c : TCatalog) (f : TFile) (h : wCatalog c + wFile f ≤ 4300000) : aL (mW c f).fStore ≤ 8600000 ∧ aY (mW c f).fDirs ≤ 8600000 ∧ aG (mW c f).fResults ≤ 8600000 ∧ nK (a6f c f) ≤ 8600000 := by
 have hc : wCatalog c = aL c.fStore + aY c.fDirs + aG c.fResults := rfl
 have hw := qO c.fStore f
 exact c0s _ c _ _ _ (fun e => by unfold mK at e; rw [Bool.and_eq_true] at e; exact e.1) (by omega) (by omega) (by omega)
end Go.Proofs.YteaaopodnbjpoaaGreat
end
section
set_option maxRecDepth 100000
namespace Go.Sx
open Go Go.RowKit
theorem wQ {P : Program} (w : World) (dT sT ty elem : TypeId) (k b o dLen dCap : Nat) (a : Addr) (sLen sCap : Nat) (cs : List Value)
    (hu : P.underlying dT = some (.slice elem)) (hs : (P.info? elem).map (·.size) = some k) (hn : cs.length = Nat.min sLen dLen * k)
    (hsrc : ∀ j v, cs[j]? = some v → w.cell? (a.add j) = some v) (hc : ∀ j, j < cs.length → (w.cell? ⟨b, o + j, none⟩).isSome = true) (hf : ∀ j, j < cs.length → w.frozen? ⟨b, o + j, none⟩ = false) (h1 : ∀ v ∈ cs, v.oneCell' = true) :
    (Builtin.copy_ #[dT, sT] ty #[.slice (some ⟨b, o, none⟩) dLen dCap, .slice (some a) sLen sCap]).run P w = .ok (goInt (Nat.min sLen dLen)) (w.setCells b o cs) := by
 have hl := run_loadCells_list (P := P) w a cs hsrc
 have hst := run_storeCells_cells (P := P) b o cs 0 w (by simpa using hc) (by simpa using hf) h1
 rw [hn] at hl
 cases hq : P.info? elem with
 | none => simp [hq] at hs
 | some i =>
  have hi : i.size = k := by simpa [hq] using hs
  simp [Builtin.copy_, run_underlying hu, Builtin.lenOf, Builtin.firstCells, sizeOf, typeInfo, hq, hi, hl, hst]
theorem a3j {P : Program} (w : World) (t e ty : TypeId) (z : Value) (ht : P.underlying t = some (.slice e)) (hv : ∀ w, (zeroValue e).run P w = .ok z w) (b o n c : Nat) (hn : 0 < n)
    (hc : ∀ j, j < n * z.cells.size → (w.cell? ⟨b, o + j, none⟩).isSome = true) (hf : ∀ j, j < n * z.cells.size → w.frozen? ⟨b, o + j, none⟩ = false) (h1 : ∀ v ∈ (Builtin.zeroCells z.cells n).toList, v.oneCell' = true) :
    (Builtin.clear_ #[t] ty #[.slice (some ⟨b, o, none⟩) n c]).run P w = .ok (.tuple #[]) (w.setCells b o (Builtin.zeroCells z.cells n).toList) := by
 have hl : (Builtin.zeroCells z.cells n).toList.length = n * z.cells.size := by simp [Builtin.zeroCells]
 have hst := run_storeCells_cells (P := P) b o (Builtin.zeroCells z.cells n).toList 0 w (by rw [hl]; simpa using hc) (by rw [hl]; simpa using hf) h1
 simp only [Nat.add_zero] at hst
 obtain ⟨m, rfl⟩ : ∃ m, n = m + 1 := ⟨n - 1, by omega⟩
 simp [Builtin.clear_, run_underlying ht, hv, hst]
theorem sV (z : Array Value) (n : Nat) : (Builtin.zeroCells z n).toList.length = n * z.size := by simp [Builtin.zeroCells]
theorem a0i {z : Array Value} (h : ∀ v ∈ z.toList, v.oneCell' = true) (n : Nat) : ∀ v ∈ (Builtin.zeroCells z n).toList, v.oneCell' = true := by
 intro v hv
 obtain ⟨j, hj, rfl⟩ := List.mem_iff_getElem.1 hv
 rw [sV] at hj
 have hz : 0 < z.size := by
  rcases Nat.eq_zero_or_pos z.size with e | e
  ·rw [e] at hj; omega
  ·exact e
 have hm : j % z.size < z.size := Nat.mod_lt _ hz
 simp only [Builtin.zeroCells, Array.toList_map, Array.toList_range, List.getElem_map, List.getElem_range]
 rw [getElem!_pos z (j % z.size) hm]
 exact h _ (by simp)
theorem LayL.take {V : View} {ds : List D} {ys : List Value} {Ss : List (List Nat)} (h : LayL V ds ys Ss) (n : Nat) : LayL V (ds.take n) (ys.take n) (Ss.take n) :=
 ⟨by simp [h.1], by simp [h.2.1], fun k d y S h1 h2 h3 => by
  rw [List.getElem?_take] at h1 h2 h3
  split at h1
  ·rw [if_pos ‹_›] at h2 h3; exact h.2.2 k d y S h1 h2 h3
  ·cases h1⟩
theorem LayL.drop {V : View} {ds : List D} {ys : List Value} {Ss : List (List Nat)} (h : LayL V ds ys Ss) (n : Nat) : LayL V (ds.drop n) (ys.drop n) (Ss.drop n) :=
 ⟨by simp [h.1], by simp [h.2.1], fun k d y S h1 h2 h3 => by
  rw [List.getElem?_drop] at h1 h2 h3
  exact h.2.2 _ d y S h1 h2 h3⟩
theorem a5H {α : Type} {sz : Nat} : ∀ {rows : List (List α)}, (∀ r ∈ rows, r.length = sz) → rows.flatten.length = rows.length * sz
 | [], _ => by simp
 | r :: rows, h => by
  rw [List.flatten_cons, List.length_append, a5H (fun r hr => h r (by simp [hr])), h r (by simp), List.length_cons, Nat.add_mul]; omega
theorem zS {α : Type} {sz : Nat} : ∀ {rows : List (List α)} (i : Nat), (∀ r ∈ rows, r.length = sz) → (rows.take i).flatten = rows.flatten.take (i * sz)
 | [], i, _ => by simp
 | r :: rows, 0, h => by simp
 | r :: rows, i + 1, h => by
  have e := h r (by simp)
  rw [List.take_succ_cons, List.flatten_cons, List.flatten_cons, zS i (fun r hr => h r (by simp [hr])), List.take_append, List.take_of_length_le (l := r) (by rw [e, Nat.add_mul]; omega)]
  congr 2
  rw [e, Nat.add_mul]; omega
theorem nS {α : Type} {sz : Nat} : ∀ {rows : List (List α)} (i : Nat), (∀ r ∈ rows, r.length = sz) → (rows.drop i).flatten = rows.flatten.drop (i * sz)
 | [], i, _ => by simp
 | r :: rows, 0, h => by simp
 | r :: rows, i + 1, h => by
  have e := h r (by simp)
  rw [List.drop_succ_cons, List.flatten_cons, nS i (fun r hr => h r (by simp [hr])), List.drop_append, List.drop_of_length_le (l := r) (by rw [e, Nat.add_mul]; omega), List.nil_append]
  congr 1
  rw [e, Nat.add_mul]; omega
theorem RowAt.drew {w wr : World} {b ty N : Nat} {F : List Value} (h : RowAt w wr b ty N F) : RowAt w wr.drew b ty N F := by
 obtain ⟨c, h1, h2, h3⟩ := h.cells
 exact ⟨⟨c, h1, h2, h3⟩, sM h.grown ⟨rfl, rfl, rfl, Nat.le_refl _, fun _ _ _ => rfl⟩⟩
theorem RowAt.shape {w wr : World} {b ty N : Nat} {F : List Value} (h : RowAt w wr b ty N F) : wr.shape? b = some (ty, N) := by
 obtain ⟨c, h1, h2, h3⟩ := h.cells
 simp [World.shape?, h1, h2]
theorem RowAt.pre {w wr : World} {b ty N : Nat} {F G : List Value} (h : RowAt w wr b ty N F) (hp : G <+: F) : RowAt w wr b ty N G := by
 obtain ⟨c, h1, h2, h3⟩ := h.cells
 exact ⟨⟨c, h1, h2, hp.trans h3⟩, h.grown⟩
theorem a1U {V : View} {w : World} {ty sz : Nat} {rows : List (List D)} {y : Value} {S : List Nat} (h : RowR V w ty sz rows y S) :
    (∀ r ∈ rows, r.length = sz) ∧ ((((∃ ao, y = .slice ao 0 0) ∧ rows = [] ∧ S = [])) ∨ ∃ b cap ys Ss, y = .slice (some ⟨b, 0, none⟩) rows.length cap ∧ rows.length ≤ cap ∧ cap ≤ maxLen ∧ RowAt w w b ty (cap * sz) ys ∧ ys.length = rows.length * sz ∧ LayL V rows.flatten ys Ss ∧ V b = none ∧ S = b :: Ss.flatten) := by
 obtain ⟨h0, ys, Ss, h1, h3⟩ := h
 refine ⟨h0, ?_⟩
 rcases h3 with h3 | ⟨b, cap, c, rfl, e3, e4, e5, e6, e7, e8, rfl⟩
 ·exact .inl h3
 ·exact .inr ⟨b, cap, ys, Ss, rfl, e3, e4, ⟨⟨c, e5, e6, e7⟩, a1r w _⟩, by rw [h1.1, a5H h0], h1, e8, rfl⟩
theorem a8s {V : View} {w w' : World} {ty sz b cap : Nat} {rows : List (List D)} {ys : List Value} {Ss : List (List Nat)} {G : List Value} (hu : ∀ r ∈ rows, r.length = sz) (hl : LayL V rows.flatten ys Ss) (h : RowAt w w' b ty (cap * sz) (ys ++ G)) (hn : rows.length ≤ cap) (hcap : cap ≤ maxLen) (hV : V b = none) :
    RowR V w' ty sz rows (.slice (some ⟨b, 0, none⟩) rows.length cap) (b :: Ss.flatten) := by
 obtain ⟨c, h1, h2, h3⟩ := h.cells
 exact ⟨hu, ys, Ss, hl, .inr ⟨b, cap, c, rfl, hn, hcap, h1, h2, (List.prefix_append _ _).trans h3, hV, rfl⟩⟩
theorem b7A {V : View} {w : World} {ty sz b cap : Nat} {rows : List (List D)} {ys : List Value} {Ss : List (List Nat)} (hu : ∀ r ∈ rows, r.length = sz) (hl : LayL V rows.flatten ys Ss) (hn : rows.length ≤ cap) (hcap : cap ≤ maxLen) (hV : V b = none) :
    ∃ S, Lay (xY V b ys) (.sl rows) (.slice (some ⟨b, 0, none⟩) rows.length cap) S := by
 have hl' := hl.mono (a4M hV ys)
 exact ⟨_, .sl rows ⟨b, 0, none⟩ cap sz ys Ss hu hn hcap hl'.1 hl'.2.1 (fun k y hk => by
  have : (Addr.add ⟨b, 0, none⟩ k) = ⟨b, k, none⟩ := by rw [Addr.add_lit, Nat.zero_add]
  rw [this]
  simp only [View.cell, xY, if_true]
  simpa using hk) hl'.2.2⟩
theorem yT {w w' : World} {r : Option Nat} (h : w.grownBy w' (some w.heap.size)) : w.grownBy w' r :=
 ⟨h.os, h.tape, h.output, h.size, fun k hk _ => h.block k hk fun e => by cases e; omega⟩
theorem b1T (w : World) (o : Obj) : (w.alloc o).drew = w.drew.alloc o := rfl
theorem RowAt.freshd (w : World) (c : Array Value) (ty : Nat) : RowAt w (w.drew.alloc (.cells c ty)) w.heap.size ty c.size c.toList := by
 have hh : (w.drew.alloc (.cells c ty)).heap = w.heap.push (.cells c ty) := rfl
 refine ⟨⟨c, by rw [hh, Array.getElem?_push, if_pos rfl], rfl, List.prefix_refl _⟩, rfl, rfl, rfl, by rw [hh, Array.size_push]; omega, fun k hk _ => ?_⟩
 rw [hh, Array.getElem?_push, if_neg (Nat.ne_of_lt hk)]
theorem b7B {V : View} {rows : List (List D)} {r : List D} {ys vs : List Value} {Ss Ts : List (List Nat)} {k : Nat} (i : Nat) (hu : ∀ r ∈ rows, r.length = k) (hl : LayL V rows.flatten ys Ss) (hl2 : LayL V r vs Ts) :
    LayL V (rows.take i ++ r :: rows.drop i).flatten (ys.take (i * k) ++ vs ++ ys.drop (i * k)) (Ss.take (i * k) ++ Ts ++ Ss.drop (i * k)) := by
 have h := ((hl.take (i * k)).append hl2).append (hl.drop (i * k))
 rw [← zS i hu, ← nS i hu] at h
 simpa [List.append_assoc] using h
theorem b6i (Ss Ts : List (List Nat)) (n : Nat) : (Ss.take n ++ Ts ++ Ss.drop n).flatten.Perm (Ss.flatten ++ Ts.flatten) := by
 have e : Ss.flatten = (Ss.take n).flatten ++ (Ss.drop n).flatten := by rw [← List.flatten_append, List.take_append_drop]
 rw [e, List.flatten_append, List.flatten_append, List.append_assoc, List.append_assoc]
 exact List.Perm.append_left _ List.perm_append_comm
theorem a5I {V : View} {w w' : World} {ty sz b cap : Nat} {rows : List (List D)} {r : List D} {ys vs : List Value} {Ss Ts : List (List Nat)} {S S2 : List Nat} {i : Nat} (hi : i ≤ rows.length) (hu : ∀ r ∈ rows, r.length = sz) (hr : r.length = sz) (hl : LayL V rows.flatten ys Ss) (hl2 : LayL V r vs Ts)
    (h : RowAt w w' b ty (cap * sz) (ys.take (i * sz) ++ vs ++ ys.drop (i * sz))) (hn : rows.length + 1 ≤ cap) (hcap : cap ≤ maxLen) (hV : V b = none) (hb : b ∈ S ∨ (w.heap.size ≤ b ∧ b < w'.heap.size)) (hS : ∀ n ∈ Ss.flatten, n ∈ S) (hT : ∀ n ∈ Ts.flatten, n ∈ S2) (hnd : (b :: (Ss.flatten ++ Ts.flatten)).Nodup) :
    ∃ S', RowR V w' ty sz (rows.take i ++ r :: rows.drop i) (.slice (some ⟨b, 0, none⟩) (rows.length + 1) cap) S' ∧ S'.Nodup ∧ ∀ n ∈ S', n ∈ S ∨ n ∈ S2 ∨ (w.heap.size ≤ n ∧ n < w'.heap.size) := by
 have hlen : (rows.take i ++ r :: rows.drop i).length = rows.length + 1 := by simp; omega
 have hup := a8s (cap := cap) (G := []) (w := w) (fun x hx => by
  rcases List.mem_append.1 hx with h' | h'
  ·exact hu x (List.mem_of_mem_take h')
  ·rcases List.mem_cons.1 h' with rfl | h'
   ·exact hr
   ·exact hu x (List.mem_of_mem_drop h')) (b7B i hu hl hl2) (by simpa using h) (by rw [hlen]; exact hn) hcap hV
 rw [hlen] at hup
 have hp := b6i Ss Ts (i * sz)
 refine ⟨_, hup, ?_, fun n hn' => ?_⟩
 ·exact (hp.cons b).nodup_iff.2 hnd
 ·rcases List.mem_cons.1 hn' with rfl | hn'
  ·rcases hb with hb | hb
   ·exact .inl hb
   ·exact .inr (.inr hb)
  ·rcases List.mem_append.1 (hp.mem_iff.1 hn') with h' | h'
   ·exact .inl (hS n h')
   ·exact .inr (.inl (hT n h'))
end Go.Sx
end
section
namespace Go.Proofs.YteaaopodnbjpoaaGreat
open Go Go.Sx Go.RowKit Go.Proofs Go.Lib
set_option maxHeartbeats 4000000 in
set_option maxRecDepth 1000000 in
theorem a6n (b c i vb vc n : Nat) (F vs : List Value) (w : World) (hi : i < n) (hroom : n + 1 ≤ c) (hc63 : c ≤ 9223372036854775807) (hvb : vb ≠ b) (hvc : 1 ≤ vc)
    (hF : F.length = n * 4) (hv : vs.length = 4) (hR : RowAt w w b 117 (c * 4) F) (hV : RowAt w w vb 117 (vc * 4) vs) (h1F : ∀ v ∈ F, v.oneCell' = true) (h1v : ∀ v ∈ vs, v.oneCell' = true) :
    Calls Tryz.prog 263 #[.slice (some ⟨b, 0, none⟩) n c, .int .i64 i, .slice (some ⟨vb, 0, none⟩) 1 vc] w fun e w' =>
     e = .returned (.slice (some ⟨b, 0, none⟩) (n + 1) c) ∧ RowAt w w' b 117 (c * 4) (F.take (i * 4) ++ vs ++ F.drop (i * 4)) := by
 have hz2 : ¬ ((i : Int) = (n : Int)) := by omega
 have hsz : (Tryz.prog.info? 117).map (·.size) = some 4 := by kernel_rfl
 have hsa := hV.shape
 have hsb := hR.shape
 have hov : ∀ x lb cb, (callFunc 298 #[.slice (some ⟨vb, 0, none⟩) 1 vc, .slice (some ⟨b, x, none⟩) lb cb]).run Tryz.prog w = .ok (.value (.bool false)) w := fun x lb cb => by
  rw [run_callFunc_extern Tryz.func298 (by kernel_rfl) (by kernel_rfl) (by kernel_rfl) (e := Extern.SlicesOverlaps.overlaps #[68, 68] #[4]) (by kernel_rfl),
   Lib.run_overlaps_apart w 68 4 117 Tryz.underlying68 4 Tryz.sizeOf117 ⟨vb, 0, none⟩ ⟨b, x, none⟩ 1 vc lb cb hvb _ _ _ _ hsa hsb (by omega) (hV.frozen _) (hV.frozen _)]
  rfl
 have hdl : (F.drop (i * 4)).length = (n - i) * 4 := by rw [List.length_drop, hF, Nat.sub_mul]
 have mixed := fol
 have hw1 : IntKind.i64.wrap ((i : Int) + 1) = (i : Int) + 1 := by rw [IntKind.wrap_i64]; omega
 have hb1 : (0 : Int) ≤ (i : Int) + 1 := by omega
 have hin : i ≤ n := by omega
 have htn : ((i : Int) + 1).toNat = i + 1 := by omega
 have hb2 : ¬ (c = i + 1) := by omega
 have hb3 : (i : Int) ≤ (n : Int) + 1 := by omega
 have hb4 : ¬ (c = i) := by omega
 have hcp1 : ∀ ty dc sc, (Builtin.copy_ #[68, 68] ty #[.slice (some ⟨b, (i + 1) * 4, none⟩) (n - i) dc, .slice (some ⟨b, i * 4, none⟩) (n + 1 - i) sc]).run Tryz.prog w.drew = .ok (goInt (Nat.min (n + 1 - i) (n - i))) (w.drew.setCells b ((i + 1) * 4) (F.drop (i * 4))) := fun ty dc sc =>
  wQ w.drew _ _ ty 117 4 b ((i + 1) * 4) (n - i) dc ⟨b, i * 4, none⟩ (n + 1 - i) sc (F.drop (i * 4)) Tryz.underlying68 hsz (by rw [hdl]; simp only [Nat.min_def]; split <;> omega)
   (fun j v hj => by rw [Addr.add_lit]; exact hR.cell (by rwa [List.getElem?_drop] at hj))
   (fun j hj => hR.there (by omega)) (fun j hj => hR.frozen _) (fun v hv => h1F v (List.mem_of_mem_drop hv))
 have hR1 := hR.drew.set (F.drop (i * 4)) (s := (i + 1) * 4) (by omega) (by omega)
 obtain ⟨W1, hW1⟩ : ∃ W1, W1 = w.drew.setCells b ((i + 1) * 4) (F.drop (i * 4)) := ⟨_, rfl⟩
 rw [← hW1] at hcp1 hR1
 have hV1 : ∀ j v, vs[j]? = some v → W1.cell? ⟨vb, j, none⟩ = some v := fun j v hj => by
  rw [hW1, World.cell?_setCells_out b _ _ _ _ (fun h _ => absurd h hvb)]
  exact hV.cell hj
 have hcp2 : ∀ (W : World), (∀ x, W.cell? x = W1.cell? x) → (∀ x, W.frozen? x = W1.frozen? x) → ∀ ty dc, (Builtin.copy_ #[68, 68] ty #[.slice (some ⟨b, i * 4, none⟩) (n + 1 - i) dc, .slice (some ⟨vb, 0, none⟩) 1 vc]).run Tryz.prog W = .ok (goInt (Nat.min 1 (n + 1 - i))) (W.setCells b (i * 4) vs) := fun W hWc hWf ty dc =>
  wQ W _ _ ty 117 4 b (i * 4) (n + 1 - i) dc ⟨vb, 0, none⟩ 1 vc vs Tryz.underlying68 hsz (by rw [hv]; simp only [Nat.min_def]; split <;> omega)
   (fun j v hj => by rw [Addr.add_lit, hWc, Nat.zero_add]; exact hV1 j v hj)
   (fun j hj => by rw [hWc]; exact hR1.there (by omega)) (fun j hj => by rw [hWf]; exact hR1.frozen _) h1v
 have HE : Aside (∀ W : World, RowAt w W b 117 (c * 4) (F.take ((i + 1) * 4) ++ F.drop (i * 4) ++ F.drop ((i + 1) * 4 + (F.drop (i * 4)).length)) → RowAt w (W.setCells b (i * 4) vs) b 117 (c * 4) (F.take (i * 4) ++ vs ++ F.drop (i * 4))) := fun W hW => by
  have h := hW.set vs (s := i * 4) (by simp; omega) (by omega)
  have e1 : F.drop ((i + 1) * 4 + (F.drop (i * 4)).length) = [] := List.drop_of_length_le (by rw [hdl]; omega)
  rw [e1, List.append_nil] at h
  rw [List.take_append_of_le_length (by simp; omega), List.take_take, Nat.min_eq_left (by omega), List.drop_append, List.drop_of_length_le (by simp; omega), List.nil_append, List.length_take] at h
  rwa [show i * 4 + vs.length - min ((i + 1) * 4) F.length = 0 by omega, List.drop_zero] at h
 have H1 : Aside _ := hR1
 clear hR1 hV1 hW1 hsa hsb hR hV h1F h1v
 go_enter Tryz.func263, Tryz.ntmps263
 go_wp2_with (simp only [hov])
 go_region_law_o (refine step_copy_runI rfl _ _ 68 68 rfl _ _ (by simp [Act.eval, Act.put]) (by simp [Act.eval, Act.put]) (hcp1 _ _ _) ?_)
 go_wp2_with (at_builtin; refine wpList_copy_runI _ rfl _ _ 68 68 rfl _ _ rfl rfl (hcp2 _ (fun _ => rfl) (fun _ => rfl) _ _) ?_)
 go_ret
 exact ⟨rfl, HE.out _ H1.out⟩
set_option maxHeartbeats 4000000 in
set_option maxRecDepth 1000000 in
theorem a8q (b n c vb vc : Nat) (F vs : List Value) (w : World) (hroom : n + 1 ≤ c) (hc63 : c ≤ 9223372036854775807)
    (hF : F.length = n * 4) (hv : vs.length = 4) (hR : RowAt w w b 117 (c * 4) F) (hV : RowAt w w vb 117 (vc * 4) vs) (h1v : ∀ v ∈ vs, v.oneCell' = true) :
    Calls Tryz.prog 263 #[.slice (some ⟨b, 0, none⟩) n c, .int .i64 n, .slice (some ⟨vb, 0, none⟩) 1 vc] w fun e w' =>
     e = .returned (.slice (some ⟨b, 0, none⟩) (n + 1) c) ∧ RowAt w w' b 117 (c * 4) (F ++ vs) := by
 obtain ⟨i0, hi0, hzs⟩ : ∃ i0, Tryz.prog.info? 117 = some i0 ∧ i0.size = 4 := ⟨Tryz.t117, by kernel_rfl, rfl⟩
 have hsrc : Src Tryz.prog i0.size 68 (.slice (some ⟨vb, 0, none⟩) 1 vc) 1 vs w := Src.ofSlice w Tryz.underlying68 ⟨vb, 0, none⟩ 1 vc vs (by rw [hzs]; omega) (fun j u hj => by rw [Addr.add_lit, Nat.zero_add]; exact hV.cell hj) h1v
 have hrun : ∀ ty, (Builtin.append_ #[68, 68] ty #[.slice (some ⟨b, 0, none⟩) n c, .slice (some ⟨vb, 0, none⟩) 1 vc]).run Tryz.prog w = .ok (.slice (some ⟨b, 0, none⟩) (n + 1) c) (w.setCells b (0 + n * i0.size) vs) := fun ty =>
  run_append_room_src w 68 68 ty 117 i0 Tryz.underlying68 hi0 b 0 n c _ 1 vs hsrc hroom (fun j hj => hR.there (by rw [hzs]; omega)) (fun j hj => hR.frozen _)
 rw [hzs, Nat.zero_add] at hrun
 have HE : Aside (RowAt w (w.setCells b (n * 4) vs) b 117 (c * 4) (F ++ vs)) := by
  have h := hR.set vs (s := n * 4) (by omega) (by omega)
  rwa [List.take_of_length_le (by omega), List.drop_of_length_le (by omega), List.append_nil] at h
 clear hR hV h1v hsrc
 go_enter Tryz.func263, Tryz.ntmps263
 go_wp2_with (at_builtin; refine Lib.wpList_append_run _ rfl _ _ _ _ rfl _ _ rfl rfl _ _ (hrun _) ?_)
 go_ret
 exact ⟨rfl, HE.out⟩
set_option maxHeartbeats 4000000 in
set_option maxRecDepth 1000000 in
theorem a3i (base : Option Addr) (n c vb vc : Nat) (F vs : List Value) (w : World) (hnc : n ≤ c) (hroom : c < n + 1) (hbig : (n + 1) * 48 ≤ 140737488355328)
    (hF : F.length = n * 4) (hv : vs.length = 4) (hnil : base = none → n = 0) (hcs : ∀ a, base = some a → ∀ j v, F[j]? = some v → w.cell? (a.add j) = some v) (hV : RowAt w w vb 117 (vc * 4) vs) (h1v : ∀ v ∈ vs, v.oneCell' = true) :
    Calls Tryz.prog 263 #[.slice base n c, .int .i64 n, .slice (some ⟨vb, 0, none⟩) 1 vc] w fun e w' =>
     ∃ G, e = .returned (.slice (some ⟨w.heap.size, 0, none⟩) (n + 1) G) ∧ n + 1 ≤ G ∧ G ≤ maxLen ∧ RowAt w w' w.heap.size 117 (G * 4) (F ++ vs) := by
 obtain ⟨i0, hi0, hz0, hzs, hzb⟩ : ∃ i0, Tryz.prog.info? 117 = some i0 ∧ i0.zero = some (.agg #[.string ⟨#[]⟩, .int .i64 0, .int .i64 0, .string ⟨#[]⟩]) ∧ i0.size = 4 ∧ i0.bytes = 48 := ⟨Tryz.t117, by kernel_rfl, rfl, rfl, rfl⟩
 have hsrc : Src Tryz.prog i0.size 68 (.slice (some ⟨vb, 0, none⟩) 1 vc) 1 vs w := Src.ofSlice w Tryz.underlying68 ⟨vb, 0, none⟩ 1 vc vs (by rw [hzs]; omega) (fun j u hj => by rw [Addr.add_lit, Nat.zero_add]; exact hV.cell hj) h1v
 have hold : (Builtin.firstCells i0.size n (.slice base n c)).run Tryz.prog w.drew = .ok F.toArray w.drew := by
  rw [hzs]
  cases base with
  | none =>
   have h0 := hnil rfl
   subst h0
   rw [List.length_eq_zero_iff.1 (by omega : F.length = 0)]
   exact run_firstCells_none w.drew 4 0 0 c
  | some a => exact run_firstCells_some w.drew 4 n a n c F (by omega) (fun j v hj => hcs a rfl j v hj)
 have hrun : ∀ ty, (Builtin.append_ #[68, 68] ty #[.slice base n c, .slice (some ⟨vb, 0, none⟩) 1 vc]).run Tryz.prog w = _ := fun ty =>
  run_append_grow_src w 68 68 ty 117 i0 _ Tryz.underlying68 hi0 hz0 base n c F hold _ 1 vs hsrc hroom (by omega) (by rw [hzb]; exact growslice_fits hroom hbig)
 have hGn : n + 1 ≤ grownCap w (n + 1) c 117 := grownCap_ge w _ _ _
 have hGm : grownCap w (n + 1) c 117 ≤ maxLen := grownCap_le_maxLen w (n + 1) c 117 (by unfold maxLen; omega)
 have HE : Aside (RowAt w (w.drew.alloc (.cells ((F ++ vs).toArray ++ Builtin.zeroCells (.agg #[.string ⟨#[]⟩, .int .i64 0, .int .i64 0, .string ⟨#[]⟩] : Value).cells (grownCap w (n + 1) c 117 - (n + 1))) 117)) w.heap.size 117 (grownCap w (n + 1) c 117 * 4) (F ++ vs)) := by
  have h := RowAt.freshd w ((F ++ vs).toArray ++ Builtin.zeroCells (.agg #[.string ⟨#[]⟩, .int .i64 0, .int .i64 0, .string ⟨#[]⟩] : Value).cells (grownCap w (n + 1) c 117 - (n + 1))) 117
  have e : ((F ++ vs).toArray ++ Builtin.zeroCells (.agg #[.string ⟨#[]⟩, .int .i64 0, .int .i64 0, .string ⟨#[]⟩] : Value).cells (grownCap w (n + 1) c 117 - (n + 1))).size = grownCap w (n + 1) c 117 * 4 := by
   simp [Builtin.zeroCells, Value.cells]; omega
  rw [e] at h
  exact h.pre (by simp)
 clear hV h1v hsrc hold hcs
 go_enter Tryz.func263, Tryz.ntmps263
 cases base with
 | none =>
  have h0 := hnil rfl
  subst h0
  go_wp2_with (at_builtin; refine Lib.wpList_append_run _ rfl _ _ _ _ rfl _ _ rfl rfl _ _ (hrun _) ?_)
  go_ret
  exact ⟨_, rfl, hGn, hGm, HE.out⟩
 | some a =>
  obtain ⟨ab, ao, asp⟩ := a
  go_wp2_with (at_builtin; refine Lib.wpList_append_run _ rfl _ _ _ _ rfl _ _ rfl rfl _ _ (hrun _) ?_)
  all_goals (go_ret; exact ⟨_, rfl, hGn, hGm, HE.out⟩)
set_option maxHeartbeats 4000000 in
set_option maxRecDepth 1000000 in
theorem a8r (b c i vb vc n : Nat) (F vs : List Value) (w : World) (hi : i < n) (hnc : n ≤ c) (hroom : c < n + 1) (hbig : (n + 1) * 48 ≤ 140737488355328) (hvc : 1 ≤ vc)
    (hF : F.length = n * 4) (hv : vs.length = 4) (hR : RowAt w w b 117 (c * 4) F) (hV : RowAt w w vb 117 (vc * 4) vs) (h1F : ∀ v ∈ F, v.oneCell' = true) (h1v : ∀ v ∈ vs, v.oneCell' = true) :
    Calls Tryz.prog 263 #[.slice (some ⟨b, 0, none⟩) n c, .int .i64 i, .slice (some ⟨vb, 0, none⟩) 1 vc] w fun e w' =>
     ∃ G, e = .returned (.slice (some ⟨w.heap.size, 0, none⟩) (n + 1) G) ∧ n + 1 ≤ G ∧ G ≤ maxLen ∧ RowAt w w' w.heap.size 117 (G * 4) (F.take (i * 4) ++ vs ++ F.drop (i * 4)) := by
 obtain ⟨i0, hi0, hz0, hzs, hzb⟩ : ∃ i0, Tryz.prog.info? 117 = some i0 ∧ i0.zero = some (.agg #[.string ⟨#[]⟩, .int .i64 0, .int .i64 0, .string ⟨#[]⟩]) ∧ i0.size = 4 ∧ i0.bytes = 48 := ⟨Tryz.t117, by kernel_rfl, rfl, rfl, rfl⟩
 have mixed := fol
 have hz2 : ¬ ((i : Int) = (n : Int)) := by omega
 have hz3 : (c : Int) < (n : Int) + 1 := by omega
 have hsz : (Tryz.prog.info? 117).map (·.size) = some 4 := by rw [hi0]; simp [hzs]
 have hbw := hR.lt
 have hvw := hV.lt
 have hkk : (n : Int) + 1 - (i : Int) = ((n + 1 - i : Nat) : Int) := by omega
 have hik : i + (n + 1 - i) = n + 1 := by omega
 have hold : (Builtin.firstCells i0.size i (.slice (some ⟨b, 0, none⟩) i c)).run Tryz.prog w.drew = .ok (F.take (i * 4)).toArray w.drew := by
  rw [hzs]
  exact run_firstCells_some w.drew 4 i ⟨b, 0, none⟩ i c (F.take (i * 4)) (by rw [List.length_take]; omega) (fun j v hj => by
   rw [Addr.add_lit, Nat.zero_add]
   rw [List.getElem?_take] at hj
   split at hj
   ·exact hR.cell hj
   ·cases hj)
 have hrz : ∀ ty, (Builtin.append_ #[68, 3] ty #[.slice (some ⟨b, 0, none⟩) i c, .int .i64 ((n : Int) + 1 - (i : Int))]).run Tryz.prog w =
     .ok (.slice (some ⟨w.heap.size, 0, none⟩) (n + 1) (grownCap w (n + 1) c 117)) (w.drew.alloc (.cells ((F.take (i * 4)).toArray ++ Builtin.zeroCells (.agg #[.string ⟨#[]⟩, .int .i64 0, .int .i64 0, .string ⟨#[]⟩] : Value).cells (n + 1 - i) ++ Builtin.zeroCells (.agg #[.string ⟨#[]⟩, .int .i64 0, .int .i64 0, .string ⟨#[]⟩] : Value).cells (grownCap w (n + 1) c 117 - (n + 1))) 117)) := fun ty => by
  have h := Lib.run_append_grow_zeros w 68 3 ty 117 i0 _ .i64 .i64 Tryz.underlying68 Tryz.underlying3 hi0 hz0 (some ⟨b, 0, none⟩) i c (F.take (i * 4)) hold (n + 1 - i) (by omega) (by omega) (by omega) (by omega) (by rw [hzb]; omega) (by rw [hzb, hik]; exact growslice_fits hroom hbig)
  rw [hik] at h
  rw [hkk]
  exact h
 obtain ⟨G, hG⟩ : ∃ G, G = grownCap w (n + 1) c 117 := ⟨_, rfl⟩
 obtain ⟨ROW, hROW⟩ : ∃ ROW : Array Value, ROW = (F.take (i * 4)).toArray ++ Builtin.zeroCells (.agg #[.string ⟨#[]⟩, .int .i64 0, .int .i64 0, .string ⟨#[]⟩] : Value).cells (n + 1 - i) ++ Builtin.zeroCells (.agg #[.string ⟨#[]⟩, .int .i64 0, .int .i64 0, .string ⟨#[]⟩] : Value).cells (G - (n + 1)) := ⟨_, rfl⟩
 rw [← hG] at hrz
 rw [← hROW] at hrz
 have hGn : n + 1 ≤ G := by rw [hG]; exact grownCap_ge w _ _ _
 have hGm : G ≤ maxLen := by rw [hG]; exact grownCap_le_maxLen w (n + 1) c 117 (by unfold maxLen; omega)
 have hG63 : G ≤ 9223372036854775807 := by unfold maxLen at hGm; omega
 have hRs : ROW.size = G * 4 := by rw [hROW]; simp [Builtin.zeroCells, Value.cells]; omega
 have hRt : ROW.toList.take (i * 4) = F.take (i * 4) := by
  rw [hROW]
  simp only [Array.toList_append, List.append_assoc]
  rw [List.take_append_of_le_length (by simp; omega), List.take_of_length_le (by simp; omega)]
 have hR0 := RowAt.freshd w ROW 117
 rw [hRs] at hR0
 obtain ⟨W1, hW1⟩ : ∃ W1, W1 = w.drew.alloc (.cells ROW 117) := ⟨_, rfl⟩
 rw [← hW1] at hrz hR0
 have hlR : ROW.toList.length = G * 4 := by rw [← hRs]; simp
 have hR1 := hR0.set vs (s := i * 4) (by rw [hlR]; omega) (by omega)
 have hOb : ∀ j v, w.cell? ⟨b, j, none⟩ = some v → W1.cell? ⟨b, j, none⟩ = some v := fun j v h => by rw [hW1, World.cell?_alloc_past (w := w.drew) _ b j hbw]; exact h
 have hOv : ∀ j v, w.cell? ⟨vb, j, none⟩ = some v → W1.cell? ⟨vb, j, none⟩ = some v := fun j v h => by rw [hW1, World.cell?_alloc_past (w := w.drew) _ vb j hvw]; exact h
 have hcpA : ∀ (W : World), (∀ x, W.cell? x = W1.cell? x) → (∀ x, W.frozen? x = W1.frozen? x) → ∀ ty dc, (Builtin.copy_ #[68, 68] ty #[.slice (some ⟨w.heap.size, i * 4, none⟩) (n + 1 - i) dc, .slice (some ⟨vb, 0, none⟩) 1 vc]).run Tryz.prog W = .ok (goInt (Nat.min 1 (n + 1 - i))) (W.setCells w.heap.size (i * 4) vs) := fun W hWc hWf ty dc =>
  wQ W _ _ ty 117 4 w.heap.size (i * 4) (n + 1 - i) dc ⟨vb, 0, none⟩ 1 vc vs Tryz.underlying68 hsz (by rw [hv]; simp only [Nat.min_def]; split <;> omega)
   (fun j v hj => by rw [Addr.add_lit, hWc, Nat.zero_add]; exact hOv _ v (hV.cell hj))
   (fun j hj => by rw [hWc]; exact hR0.there (by omega)) (fun j hj => by rw [hWf]; exact hR0.frozen _) h1v
 have hbN : b ≠ w.heap.size := by omega
 have hdl : (F.drop (i * 4)).length = (n - i) * 4 := by rw [List.length_drop, hF, Nat.sub_mul]
 have hcpB : ∀ (W : World), (∀ x, W.cell? x = (W1.setCells w.heap.size (i * 4) vs).cell? x) → (∀ x, W.frozen? x = (W1.setCells w.heap.size (i * 4) vs).frozen? x) → ∀ ty dc sc, (Builtin.copy_ #[68, 68] ty #[.slice (some ⟨w.heap.size, (i + 1) * 4, none⟩) (n - i) dc, .slice (some ⟨b, i * 4, none⟩) (n - i) sc]).run Tryz.prog W = .ok (goInt (Nat.min (n - i) (n - i))) (W.setCells w.heap.size ((i + 1) * 4) (F.drop (i * 4))) := fun W hWc hWf ty dc sc =>
  wQ W _ _ ty 117 4 w.heap.size ((i + 1) * 4) (n - i) dc ⟨b, i * 4, none⟩ (n - i) sc (F.drop (i * 4)) Tryz.underlying68 hsz (by rw [hdl]; simp only [Nat.min_def]; split <;> omega)
   (fun j v hj => by
    rw [Addr.add_lit, hWc, World.cell?_setCells_out _ _ _ _ _ (fun h _ => absurd h hbN)]
    exact hOb _ v (hR.cell (by rwa [List.getElem?_drop] at hj)))
   (fun j hj => by rw [hWc]; exact hR1.there (by omega))
   (fun j hj => by rw [hWf]; exact hR1.frozen _) (fun v hv => h1F v (List.mem_of_mem_drop hv))
 have HE : Aside (∀ W W' : World, RowAt w W w.heap.size 117 (G * 4) (ROW.toList.take (i * 4) ++ vs ++ ROW.toList.drop (i * 4 + vs.length)) → W' = W.setCells w.heap.size ((i + 1) * 4) (F.drop (i * 4)) → RowAt w W' w.heap.size 117 (G * 4) (F.take (i * 4) ++ vs ++ F.drop (i * 4))) := fun W W' hW e => by
  subst e
  have h := hW.set (F.drop (i * 4)) (s := (i + 1) * 4) (by simp only [List.length_append, List.length_take, List.length_drop, hlR]; omega) (by omega)
  rw [hRt, List.take_append_of_le_length (by simp; omega), List.take_of_length_le (by simp; omega)] at h
  exact h.pre (List.prefix_append _ _)
 have H1 : Aside (RowAt w (((w.alloc (.cells ROW 117)).drew.setCells w.heap.size (i * 4) vs).drew) w.heap.size 117 (G * 4) (ROW.toList.take (i * 4) ++ vs ++ ROW.toList.drop (i * 4 + vs.length))) := by
  rw [b1T, ← hW1]
  exact hR1.drew
 subst hW1
 have hE1 : ∀ x, ((w.alloc (.cells ROW 117)).drew).cell? x = (w.drew.alloc (.cells ROW 117)).cell? x := fun x => rfl
 have hE2 : ∀ x, ((w.alloc (.cells ROW 117)).drew).frozen? x = (w.drew.alloc (.cells ROW 117)).frozen? x := fun x => rfl
 have hF1 : ∀ x, (((w.alloc (.cells ROW 117)).drew.setCells w.heap.size (i * 4) vs).drew).cell? x = ((w.drew.alloc (.cells ROW 117)).setCells w.heap.size (i * 4) vs).cell? x := fun x => rfl
 have hF2 : ∀ x, (((w.alloc (.cells ROW 117)).drew.setCells w.heap.size (i * 4) vs).drew).frozen? x = ((w.drew.alloc (.cells ROW 117)).setCells w.heap.size (i * 4) vs).frozen? x := fun x => rfl
 have hGi : ¬ (G = i) := by omega
 have hGim : ¬ (G = i + 1) := by omega
 have hci : ¬ (c = i) := by omega
 have hw1 : IntKind.i64.wrap ((i : Int) + 1) = (i : Int) + 1 := by rw [IntKind.wrap_i64]; omega
 have hb1 : (0 : Int) ≤ (i : Int) + 1 := by omega
 have hin : i ≤ n := by omega
 have htn : ((i : Int) + 1).toNat = i + 1 := by omega
 have hb3 : (i : Int) ≤ (n : Int) := by omega
 clear hkk hik hold hROW hG hR hV hR0 hR1 h1F h1v hOb hOv hRt hRs hlR
 go_enter Tryz.func263, Tryz.ntmps263
 go_wp2_with (first
  | (at_builtin; refine Lib.wpList_append_run _ rfl _ _ _ _ rfl _ _ rfl rfl _ _ (hrz _) ?_)
  | (at_builtin; refine wpList_copy_runI _ rfl _ _ 68 68 rfl _ _ rfl rfl (hcpA _ hE1 hE2 _ _) ?_)
  | (at_builtin; refine wpList_copy_runI _ rfl _ _ 68 68 rfl _ _ rfl rfl (hcpB _ (fun _ => rfl) (fun _ => rfl) _ _ _) ?_))
 go_region_law_o (refine step_copy_runI rfl _ _ 68 68 rfl (.slice (some ⟨w.heap.size, (i + 1) * 4, none⟩) (n - i) (G - (i + 1))) (.slice (some ⟨b, i * 4, none⟩) (n - i) (c - i)) (by simp [Act.eval, Act.put]) (by simp [Act.eval, Act.put]) (hcpB _ hF1 hF2 3 (G - (i + 1)) (c - i)) ?_)
 go_wp2
 go_ret
 exact ⟨G, rfl, hGn, hGm, HE.out _ _ H1.out rfl⟩
end Go.Proofs.YteaaopodnbjpoaaGreat
end
section
set_option maxRecDepth 100000
namespace Go.Proofs.YteaaopodnbjpoaaGreat
open Go Go.Sx Go.RowKit Go.Proofs
theorem oF (rows : List (List D)) (r : List D) (i : Nat) (hi : i ≤ rows.length) (hl : rows.length ≤ 8388608) : FnJ Tryz.prog 263 117 4 rows i [r] (rows.take i ++ r :: rows.drop i) := by
 refine ⟨Tryz.call263, fun V w y S y2 S2 hm hrow hrow2 hnd hlt => ?_⟩
 obtain ⟨hu, h⟩ := a1U hrow
 obtain ⟨hu2, h2⟩ := a1U hrow2
 have hr : r.length = 4 := hu2 r (by simp)
 rcases h2 with ⟨_, h2, _⟩ | ⟨vb, vc, vs, Ts, rfl, v3, v4, hV, vl, vL, vV, rfl⟩
 ·cases h2
 have vL' : LayL V r vs Ts := by simpa using vL
 have vl' : vs.length = 4 := by simpa using vl
 have v3' : 1 ≤ vc := by simpa using v3
 have h1v := vL'.oneCell
 rcases h with ⟨⟨ao, rfl⟩, rfl, rfl⟩ | ⟨b, cap, ys, Ss, rfl, e3, e4, hR, el, eL, eV, rfl⟩
 ·have hi0 : i = 0 := by simpa using hi
  subst hi0
  refine (a3i ao 0 0 vb vc [] vs w (by omega) (by omega) (by omega) (by simp) vl' (fun _ => rfl) (fun a _ j v hj => by simp at hj) hV h1v).mono ?_
  rintro e w' ⟨G, rfl, hG, hGm, hN⟩
  have hd := a5I (S := []) (S2 := vb :: Ts.flatten) (rows := []) (r := r) (i := 0) (Ss := []) (ys := []) (V := V) (hi) hu hr (LayL.nil V) vL' (by simpa using hN) (by simpa using hG) hGm (hm.fresh (Nat.le_refl _)) (.inr ⟨Nat.le_refl _, hN.lt⟩) (fun n hn => by simp at hn) (fun n hn => List.mem_cons_of_mem _ hn)
   (by
    simp only [List.flatten_nil, List.nil_append]
    refine List.nodup_cons.2 ⟨fun h => ?_, (List.nodup_cons.1 (by simpa using hnd)).2⟩
    have := hlt _ (by simp only [List.nil_append]; exact List.mem_cons_of_mem _ h)
    omega)
  exact ⟨_, rfl, yT hN.grown, hd⟩
 ·have h1F := eL.oneCell
  have hbw := hR.lt
  have hvb : vb ≠ b := fun e => by subst e; simp at hnd
  have hnd2 : (Ss.flatten ++ Ts.flatten).Nodup := by
   have h1 : (Ss.flatten ++ vb :: Ts.flatten).Nodup := (List.nodup_cons.1 (by simpa using hnd)).2
   exact h1.sublist (List.Sublist.append_left (List.sublist_cons_self _ _) _)
  have hbS : b ∉ Ss.flatten ++ Ts.flatten := fun h => by
   have h1 := (List.nodup_cons.1 (show (b :: (Ss.flatten ++ vb :: Ts.flatten)).Nodup by simpa using hnd)).1
   rcases List.mem_append.1 h with h | h
   ·exact h1 (List.mem_append.2 (.inl h))
   ·exact h1 (List.mem_append.2 (.inr (List.mem_cons_of_mem _ h)))
  have hfr : w.heap.size ∉ Ss.flatten ++ Ts.flatten := fun h => by
   have := hlt w.heap.size (by
    rcases List.mem_append.1 h with h | h
    ·exact List.mem_append.2 (.inl (List.mem_cons_of_mem _ h))
    ·exact List.mem_append.2 (.inr (List.mem_cons_of_mem _ h)))
   omega
  have old : ∀ w', RowAt w w' b 117 (cap * 4) (ys.take (i * 4) ++ vs ++ ys.drop (i * 4)) → rows.length + 1 ≤ cap → ∃ S', RowR V w' 117 4 (rows.take i ++ r :: rows.drop i) (.slice (some ⟨b, 0, none⟩) (rows.length + 1) cap) S' ∧ S'.Nodup ∧ ∀ n ∈ S', n ∈ (b :: Ss.flatten) ∨ n ∈ (vb :: Ts.flatten) ∨ (w.heap.size ≤ n ∧ n < w'.heap.size) := fun w' h hc =>
   a5I hi hu hr eL vL' h hc e4 eV (.inl (by simp)) (fun n hn => List.mem_cons_of_mem _ hn) (fun n hn => List.mem_cons_of_mem _ hn) (List.nodup_cons.2 ⟨hbS, hnd2⟩)
  have new : ∀ w' G, RowAt w w' w.heap.size 117 (G * 4) (ys.take (i * 4) ++ vs ++ ys.drop (i * 4)) → rows.length + 1 ≤ G → G ≤ maxLen → ∃ S', RowR V w' 117 4 (rows.take i ++ r :: rows.drop i) (.slice (some ⟨w.heap.size, 0, none⟩) (rows.length + 1) G) S' ∧ S'.Nodup ∧ ∀ n ∈ S', n ∈ (b :: Ss.flatten) ∨ n ∈ (vb :: Ts.flatten) ∨ (w.heap.size ≤ n ∧ n < w'.heap.size) := fun w' G h hc hGm =>
   a5I hi hu hr eL vL' h hc hGm (hm.fresh (Nat.le_refl _)) (.inr ⟨Nat.le_refl _, h.lt⟩) (fun n hn => List.mem_cons_of_mem _ hn) (fun n hn => List.mem_cons_of_mem _ hn) (List.nodup_cons.2 ⟨hfr, hnd2⟩)
  have e63 : cap ≤ 9223372036854775807 := by unfold maxLen at e4; omega
  rcases Nat.lt_or_ge i rows.length with hlt' | hge
  ·rcases Nat.lt_or_ge cap (rows.length + 1) with hc | hc
   ·refine (a8r b cap i vb vc rows.length ys vs w hlt' e3 hc (by omega) v3' el vl' hR hV h1F h1v).mono ?_
    rintro e w' ⟨G, rfl, hG, hGm, hN⟩
    exact ⟨_, rfl, yT hN.grown, new w' G hN hG hGm⟩
   ·refine (a6n b cap i vb vc rows.length ys vs w hlt' hc e63 hvb v3' el vl' hR hV h1F h1v).mono ?_
    rintro e w' ⟨rfl, hN⟩
    exact ⟨_, rfl, hN.grown, old w' hN hc⟩
  ·have hie : i = rows.length := by omega
   subst hie
   rw [List.take_of_length_le (l := ys) (by omega), List.drop_of_length_le (l := ys) (by omega), List.append_nil] at old new
   rcases Nat.lt_or_ge cap (rows.length + 1) with hc | hc
   ·refine (a3i (some ⟨b, 0, none⟩) rows.length cap vb vc ys vs w e3 hc (by omega) el vl' (fun h => by cases h) (fun a ha j v hj => by cases ha; rw [Addr.add_lit, Nat.zero_add]; exact hR.cell hj) hV h1v).mono ?_
    rintro e w' ⟨G, rfl, hG, hGm, hN⟩
    exact ⟨_, rfl, yT hN.grown, new w' G hN hG hGm⟩
   ·refine (a8q b rows.length cap vb vc ys vs w hc e63 el vl' hR hV h1v).mono ?_
    rintro e w' ⟨rfl, hN⟩
    exact ⟨_, rfl, hN.grown, old w' hN hc⟩
end Go.Proofs.YteaaopodnbjpoaaGreat
end
section
set_option maxRecDepth 100000
set_option maxHeartbeats 4000000
namespace Go.Proofs.YteaaopodnbjpoaaGreat
open Go Go.Sx Go.RowKit Go.Proofs
def fB (s : ByteArray) (y : TAttr) : Bool := !gQ y.fName s
def jU (a : List TAttr) (x : TAttr) : Bool := a.any fun y => decide (y.fName = x.fName) && !a1B y.fValue x.fValue
def kP (a : List TAttr) (x : TAttr) : Bool := a.any fun y => decide (y.fName = x.fName)
def gM (a : List TAttr) : List TAttr → List TAttr → Option (List TAttr)
 | l, [] => some l
 | l, x :: b => if jU a x then none else if kP a x then gM a l b else gM a (eU (bW (fB x.fName) l) x l) b
def iO (a b : TEdit) : TEdit := if a.fOK && b.fOK then (match gM a.fSet a.fSet b.fSet with | none => ⟨false, []⟩ | some l => ⟨true, l⟩) else ⟨false, []⟩
theorem a3f (a l b : List TAttr) (k : Nat) (h : k < b.length) : gM a l (b.drop k) = if jU a b[k] then none else if kP a b[k] then gM a l (b.drop (k + 1)) else gM a (eU (bW (fB b[k].fName) l) b[k] l) (b.drop (k + 1)) := by
 rw [List.drop_eq_getElem_cons h, gM]
theorem a3g (a : List TAttr) (x : TAttr) (k : Nat) (h : k < a.length) : jU (a.drop k) x = ((decide (a[k].fName = x.fName) && !a1B a[k].fValue x.fValue) || jU (a.drop (k + 1)) x) := by
 rw [List.drop_eq_getElem_cons h]; rfl
theorem a3h (a : List TAttr) (x : TAttr) (k : Nat) (h : k < a.length) : kP (a.take (k + 1)) x = (kP (a.take k) x || decide (a[k].fName = x.fName)) := by
 unfold kP; rw [List.take_succ_eq_append_getElem h, List.any_append]; simp
theorem b4s (s : ByteArray) (x y : TAttr) (h : x.fName = s) : FnC Tryz.prog 297 [zZ y, .o (.q [sv x.fName, iv x.fValue.fKind, iv x.fValue.fInt, sv x.fValue.fStr])] (ob (fB s y)) := by
 subst h
 refine ent Tryz.func297 rfl Tryz.call297 rfl (fun C => ?_); simp only [go_sem, st0, Tryz.ntmps297]
 refine aD ?_
 exact aA ⟨⟨_, rfl, by simp only [go_sem, fB]⟩, trivial⟩
theorem pJ (a b : TEdit) (ha : a.fSet.length ≤ 1048576) (hb : b.fSet.length ≤ 1048576) : FnC Tryz.prog 258 [gT a, gT b] (a2M (iO a b)) := by
 refine ent Tryz.func258 rfl Tryz.call258 rfl (fun C => ?_); simp only [go_sem, st0, Tryz.ntmps258]
 cases ha0 : a.fOK
 case false =>
  have q0 := @ha0; refine fD ?_
  exact aA ⟨⟨_, rfl, by simp only [go_sem, iO, ha0, Bool.false_and]⟩, trivial⟩
 cases hb0 : b.fOK
 case false =>
  have q0 := @ha0; have q1 := @hb0; refine fI ?_
  exact aA ⟨⟨_, rfl, by simp only [go_sem, iO, ha0, hb0, Bool.and_false]⟩, trivial⟩
 have hm : iO a b = (match gM a.fSet a.fSet b.fSet with | none => ⟨false, []⟩ | some l => ⟨true, l⟩) := by simp [iO, ha0, hb0]
 rw [hm]
 clear hm
 have q0 := @ha0; have q1 := @hb0; refine jZ (mJ a.fSet (by omega)) ?_
 generalize a.fSet = a at *
 generalize b.fSet = b at *
 refine aM (α := Nat × List TAttr) (fun x => [(23, .o .u), (24, .o .u), (28, oi x.1)]) (fun x => [(3, .row 117 4 (x.2.map aJ) true)]) (fun x => x.1 ≤ b.length ∧ gM a a b = gM a x.2 (b.drop x.1) ∧ x.2.length ≤ a.length + x.1) (fun x => b.length - x.1) (0, a) (fun _ => ?_) ?_ ?_ (fun x hx => ?_)
 ·simp only [go_sem]
 ·simp only [go_sem]; simp
 ·simp
 ·obtain ⟨i, l⟩ := x
  obtain ⟨hi, hq, hl⟩ := hx
  simp only at hi hq hl
  simp only [go_sem]
  refine aD ?_
  refine cnd rfl (fun h => ?_) (fun h => ?_)
  ·simp only [decide_eq_true_eq, Int.ofNat_lt] at h
   rw [a3f a l b i h] at hq
   have q0 := @h; refine fD ?_
   refine aM (α := Nat) (fun k => [(8, ob (kP (a.take k) b[i])), (35, oi k)]) (fun _ => []) (fun k => k ≤ a.length ∧ jU a b[i] = jU (a.drop k) b[i]) (fun k => a.length - k) 0 (fun _ => ?_) ?_ ?_ (fun k hk => ?_)
   ·simp only [go_sem]
   ·simp only [go_sem]; simp [kP]
   ·simp
   ·obtain ⟨hk, hc⟩ := hk
    simp only [go_sem]
    refine aD ?_
    refine cnd rfl (fun h2 => ?_) (fun h2 => ?_)
    ·simp only [decide_eq_true_eq, Int.ofNat_lt] at h2
     rw [a3g a b[i] k h2] at hc
     have hkn := a3h a b[i] k h2
     by_cases h3 : a[k].fName = b[i].fName
     case neg =>
      have hc' : jU a b[i] = jU (a.drop (k + 1)) b[i] := by simpa [h3] using hc
      cases hkk : kP (a.take k) b[i]
      ·have q0 := @h2; have q1 := @h3; have q2 := @hkk; have q3 := @decide_false; refine kC ?_
       refine aC (k + 1) ?_ ?_ ?_
       ·simp only [go_sem]; simp [hkn, hkk, h3]
       ·exact ⟨by omega, hc'⟩
       ·omega
      ·have q0 := @h2; have q1 := @h3; have q2 := @hkk; have q3 := @decide_false; refine kC ?_
       refine aC (k + 1) ?_ ?_ ?_
       ·simp only [go_sem]; simp [hkn, hkk, h3]
       ·exact ⟨by omega, hc'⟩
       ·omega
     have q0 := @h2; have q1 := @h3; have q2 := @decide_true; refine lT ?_
     refine cnd (b := !(a1B a[k].fValue b[i].fValue)) rfl (fun h4 => ?_) (fun h4 => ?_)
     ·have hn : gM a a b = none := by rw [hq, if_pos (by rw [hc, h4]; simp [h3])]
      refine aD ?_
      exact aA ⟨⟨_, rfl, by simp only [go_sem, hn]⟩, trivial⟩
     ·have hc' : jU a b[i] = jU (a.drop (k + 1)) b[i] := by rw [hc, h4]; simp
      cases hkk : kP (a.take k) b[i]
      ·have q0 := @h2; have q1 := @h3; have q2 := @hkk; have q3 := @decide_true; refine kC ?_
       refine aC (k + 1) ?_ ?_ ?_
       ·simp only [go_sem]; simp [hkn, hkk, h3]
       ·exact ⟨by omega, hc'⟩
       ·omega
      ·have q0 := @h2; have q1 := @h3; have q2 := @hkk; have q3 := @decide_true; refine kC ?_
       refine aC (k + 1) ?_ ?_ ?_
       ·simp only [go_sem]; simp [hkn, hkk, h3]
       ·exact ⟨by omega, hc'⟩
       ·omega
    ·simp only [decide_eq_false_iff_not] at h2
     have e : k = a.length := by omega
     subst e
     have hcl : jU a b[i] = false := by rw [hc, List.drop_length]; rfl
     rw [hcl, if_neg (by simp)] at hq
     have htl : a.take a.length = a := List.take_length
     have q0 := @htl; refine fD ?_
     refine cnd (b := kP a b[i]) rfl (fun h4 => ?_) (fun h4 => ?_)
     ·rw [if_pos h4] at hq
      refine aD ?_
      refine aC (i + 1, l) ?_ ?_ ?_
      ·simp only [go_sem]; simp
      ·exact ⟨by omega, hq, by simp only; omega⟩
      ·simp only; omega
     ·rw [if_neg (by simp [h4])] at hq
      have hx := idxP_fst (fB b[i].fName) l 0
      have hle := tX (fB b[i].fName) l
      have qH := trivial; repeat' (with_reducible first | refine nY ?_ | (refine mX ?_; try simp only [go_sem]) | refine kD ?_ | refine rD ?_ | refine vL (nN _ _ (fB b[i].fName) l (fun y _ => b4s _ b[i] y rfl) (by omega)) ?_ | refine aO ?_ | fail)
      refine cnd (b := decide (dI (fB b[i].fName) l 0 < 0)) rfl (fun h5 => ?_) (fun h5 => ?_)
      ·have h5' := of_decide_eq_true h5
       have e5 : bW (fB b[i].fName) l = l.length := by
        rcases hx with hx | hx
        ·exact hx.2.2
        ·omega
       rw [e5] at hq
       have qH := trivial; repeat' (with_reducible first | refine nY ?_ | (refine mX ?_; try simp only [go_sem]) | refine kD ?_ | refine rD ?_ | refine vK (oF (l.map aJ) (aJ b[i]) l.length (by simp) (by simp; omega)) ?_ | refine aO ?_ | fail)
       refine aC (i + 1, eU l.length b[i] l) ?_ ?_ ?_
       ·simp only [go_sem]; simp [eU, aJ, ← List.map_take, ← List.map_drop]
       ·exact ⟨by omega, hq, by simp only; rw [tY _ _ _ (Nat.le_refl _)]; omega⟩
       ·simp only; omega
      ·have h5' := of_decide_eq_false h5
       have e5 : dI (fB b[i].fName) l 0 = ((bW (fB b[i].fName) l : Nat) : Int) := by
        rcases hx with hx | hx
        ·omega
        ·simpa using hx.1
       have qH := @e5; repeat' (with_reducible first | refine nY ?_ | (refine mX ?_; try simp only [go_sem, qH]) | refine kD ?_ | refine rD ?_ | refine vK (oF (l.map aJ) (aJ b[i]) (bW (fB b[i].fName) l) (by simpa using hle) (by simp; omega)) ?_ | refine aO ?_ | fail)
       refine aC (i + 1, eU (bW (fB b[i].fName) l) b[i] l) ?_ ?_ ?_
       ·simp only [go_sem]; simp [eU, aJ, ← List.map_take, ← List.map_drop]
       ·exact ⟨by omega, hq, by simp only; rw [tY _ _ _ hle]; omega⟩
       ·simp only; omega
  ·simp only [decide_eq_false_iff_not] at h
   have e : i = b.length := by omega
   subst e
   rw [List.drop_length, gM] at hq
   refine aD ?_
   exact aA ⟨⟨_, rfl, by simp only [go_sem, hq]⟩, trivial⟩
theorem pX {α β : Type} (f : α → β) (l : List α) (n : Nat) : (l.map f).take n = (l.take n).map f := List.map_take.symm
theorem pY {α β : Type} (f : α → β) (l : List α) (n : Nat) : (l.map f).drop n = (l.drop n).map f := List.map_drop.symm
theorem b0s (p : TAttr → Bool) (l : List TAttr) (k : Nat) (h : k < l.length) (hk : bW p l = k + bW p (l.drop k)) : bW p l = if p l[k] then k else k + 1 + bW p (l.drop (k + 1)) := by
 rw [hk, a4L p l k h]
 split <;> omega
theorem a8p (a b : TEdit) (ha : a.fSet.length ≤ 1048576) (hb : b.fSet.length ≤ 1048576) : FnC Tryz.prog 251 [gT a, gT b] (a2M (iO a b)) := by
 refine ent Tryz.func251 rfl Tryz.call251 rfl (fun C => ?_); simp only [go_sem, st0, Tryz.ntmps251]
 cases ha0 : a.fOK
 case false =>
  have q0 := @ha0; refine fD ?_
  exact aA ⟨⟨_, rfl, by simp only [go_sem, iO, ha0, Bool.false_and]⟩, trivial⟩
 cases hb0 : b.fOK
 case false =>
  have q0 := @ha0; have q1 := @hb0; refine fI ?_
  exact aA ⟨⟨_, rfl, by simp only [go_sem, iO, ha0, hb0, Bool.and_false]⟩, trivial⟩
 have hm : iO a b = (match gM a.fSet a.fSet b.fSet with | none => ⟨false, []⟩ | some l => ⟨true, l⟩) := by simp [iO, ha0, hb0]
 rw [hm]
 clear hm
 have q0 := @ha0; have q1 := @hb0; refine fI ?_
 generalize a.fSet = a at *
 generalize b.fSet = b at *
 refine aM (α := Nat × List TAttr) (fun x => [(6, .o (.s 5)), (7, oi x.1), (30, .o .u)]) (fun x => [(5, .row 117 4 (x.2.map aJ) true)]) (fun x => x.1 ≤ b.length ∧ gM a a b = gM a x.2 (b.drop x.1) ∧ x.2.length ≤ a.length + x.1) (fun x => b.length - x.1) (0, a) (fun _ => ?_) ?_ ?_ (fun x hx => ?_)
 ·simp only [go_sem]
 ·simp only [go_sem]; simp
 ·simp
 ·obtain ⟨i, l⟩ := x
  obtain ⟨hi, hq, hl⟩ := hx
  simp only at hi hq hl
  simp only [go_sem]
  refine aD ?_
  refine cnd rfl (fun h => ?_) (fun h => ?_)
  ·simp only [decide_eq_true_eq, Int.ofNat_lt] at h
   rw [a3f a l b i h] at hq
   have q0 := @h; refine fD ?_
   refine aM (α := Nat) (fun k => [(9, ob (kP (a.take k) b[i])), (10, oi k)]) (fun _ => []) (fun k => k ≤ a.length ∧ jU a b[i] = jU (a.drop k) b[i]) (fun k => a.length - k) 0 (fun _ => ?_) ?_ ?_ (fun k hk => ?_)
   ·simp only [go_sem]
   ·simp only [go_sem]; simp [kP]
   ·simp
   ·obtain ⟨hk, hc⟩ := hk
    simp only [go_sem]
    refine aD ?_
    refine cnd rfl (fun h2 => ?_) (fun h2 => ?_)
    ·simp only [decide_eq_true_eq, Int.ofNat_lt] at h2
     rw [a3g a b[i] k h2] at hc
     have hkn := a3h a b[i] k h2
     by_cases h3 : a[k].fName = b[i].fName
     case neg =>
      have hc' : jU a b[i] = jU (a.drop (k + 1)) b[i] := by simpa [h3] using hc
      cases hkk : kP (a.take k) b[i]
      ·have q0 := @h2; have q1 := @h3; have q2 := @hkk; have q3 := @decide_false; refine kC ?_
       refine aC (k + 1) ?_ ?_ ?_
       ·simp only [go_sem]; simp [hkn, hkk, h3]
       ·exact ⟨by omega, hc'⟩
       ·omega
      ·have q0 := @h2; have q1 := @h3; have q2 := @hkk; have q3 := @decide_false; refine kC ?_
       refine aC (k + 1) ?_ ?_ ?_
       ·simp only [go_sem]; simp [hkn, hkk, h3]
       ·exact ⟨by omega, hc'⟩
       ·omega
     have q0 := @h2; have q1 := @h3; have q2 := @decide_true; refine lT ?_
     refine cnd (b := !(a1B a[k].fValue b[i].fValue)) rfl (fun h4 => ?_) (fun h4 => ?_)
     ·have hn : gM a a b = none := by rw [hq, if_pos (by rw [hc, h4]; simp [h3])]
      refine aD ?_
      exact aA ⟨⟨_, rfl, by simp only [go_sem, hn]⟩, trivial⟩
     ·have hc' : jU a b[i] = jU (a.drop (k + 1)) b[i] := by rw [hc, h4]; simp
      cases hkk : kP (a.take k) b[i]
      ·have q0 := @h2; have q1 := @h3; have q2 := @hkk; have q3 := @decide_true; refine kC ?_
       refine aC (k + 1) ?_ ?_ ?_
       ·simp only [go_sem]; simp [hkn, hkk, h3]
       ·exact ⟨by omega, hc'⟩
       ·omega
      ·have q0 := @h2; have q1 := @h3; have q2 := @hkk; have q3 := @decide_true; refine kC ?_
       refine aC (k + 1) ?_ ?_ ?_
       ·simp only [go_sem]; simp [hkn, hkk, h3]
       ·exact ⟨by omega, hc'⟩
       ·omega
    ·simp only [decide_eq_false_iff_not] at h2
     have e : k = a.length := by omega
     subst e
     have hcl : jU a b[i] = false := by rw [hc, List.drop_length]; rfl
     rw [hcl, if_neg (by simp)] at hq
     have htl : a.take a.length = a := List.take_length
     have q0 := @htl; refine fD ?_
     refine cnd (b := kP a b[i]) rfl (fun h4 => ?_) (fun h4 => ?_)
     ·rw [if_pos h4] at hq
      refine aD ?_
      refine aC (i + 1, l) ?_ ?_ ?_
      ·simp only [go_sem]; simp
      ·exact ⟨by omega, hq, by simp only; omega⟩
      ·simp only; omega
     ·rw [if_neg (by simp [h4])] at hq
      have hle := tX (fB b[i].fName) l
      refine aD ?_
      refine WP.sees (Sees.frz 5 rfl) ?_
      simp only [go_sem]
      refine aM (α := Nat) (fun n => [(11, oi n)]) (fun _ => []) (fun n => n ≤ l.length ∧ bW (fB b[i].fName) l = n + bW (fB b[i].fName) (l.drop n)) (fun n => l.length - n) 0 (fun _ => ?_) ?_ ?_ (fun n hn => ?_)
      ·simp only [go_sem]
      ·simp only [go_sem]; simp
      ·simp
      ·obtain ⟨hn, hf⟩ := hn
       simp only [go_sem]
       by_cases h5 : n < l.length
       ·have hfx := b0s (fB b[i].fName) l n h5 hf
        have h5' : ((n : Int) < (l.length : Int)) = True := by simp [h5]
        have q0 := @h5; have q1 := @h5'; have q2 := @decide_true; refine lT ?_
        refine cnd (b := gQ l[n].fName b[i].fName) rfl (fun h6 => ?_) (fun h6 => ?_)
        ·rw [if_neg (by simp [fB, h6])] at hfx
         refine aD ?_
         refine aC (n + 1) ?_ ?_ ?_
         ·simp only [go_sem]; simp
         ·exact ⟨by omega, hfx⟩
         ·omega
        ·rw [if_pos (by simp [fB, h6])] at hfx
         have hn1 : ((0 : Int) ≤ (n : Int)) := by omega
         have qH := aI @h5 (aI @pX (aI @pY (aI @wV (aI @wW @a0Z)))); repeat' (with_reducible first | refine nY ?_ | (refine mX ?_; try simp only [go_sem, qH]) | refine kD ?_ | (apply rE [0,4,6,7] [] [1,2,3,5] [1,2,3,5] ((.c 0 [] [1,2,3,5] (.c 4 [] [5] (.c 6 [] [] (.c 7 [8] [8] .n .n) .n) (.c 6 [] [1,2,3] (.c 4 [] [] (.c 7 [8] [8] .n .n) .n) .n)) (.c 6 [] [1,2,3] (.c 0 [] [1,2,3] (.c 4 [] [] (.c 7 [8] [8] .n .n) .n) .n) .n))) (by simp only [go_sem]; rfl) (by simp only [go_sem]; rfl) (by simp only [go_sem]; rfl) (by decide +kernel); (focus simp only [go_sem]; done)) | exact bU | refine bF (uX ?_) ?_ | refine bG (aX ?_) ?_ | refine bH (aX ?_) ?_ | exact bE | (refine dB [(7, 8)] (by simp only [go_sem]; rfl) ?_; exact rfl) | exact oH | exact uB | refine rD ?_ | refine aO ?_ | fail)
         ·refine a3B [(5, 7)] (i + 1, eU (bW (fB b[i].fName) l) b[i] l) (by simp only [go_sem]; rfl) ?_ ?_ ?_
          ·simp only [go_sem]; simp [hfx, eU, aJ, ← List.map_take, ← List.map_drop]
          ·exact ⟨by omega, hq, by simp only; rw [tY _ _ _ hle]; omega⟩
          ·simp only; omega
       ·have e : n = l.length := by omega
        have hfx : bW (fB b[i].fName) l = n := by rw [hf, e, List.drop_length]; rfl
        have h5' : ((n : Int) < (l.length : Int)) = False := by simp [h5]
        have qH := aI @h5 (aI @h5' (aI @decide_false (aI @pX (aI @pY (aI @wV (aI @wW @a0Z)))))); repeat' (with_reducible first | refine nY ?_ | (refine mX ?_; try simp only [go_sem, qH]) | refine kD ?_ | (apply rE [0,4,6,7] [] [1,2,3,5] [1,2,3,5] ((.c 0 [] [1,2,3,5] (.c 4 [] [5] (.c 6 [] [] (.c 7 [8] [8] .n .n) .n) (.c 6 [] [1,2,3] (.c 4 [] [] (.c 7 [8] [8] .n .n) .n) .n)) (.c 6 [] [1,2,3] (.c 0 [] [1,2,3] (.c 4 [] [] (.c 7 [8] [8] .n .n) .n) .n) .n))) (by simp only [go_sem]; rfl) (by simp only [go_sem]; rfl) (by simp only [go_sem]; rfl) (by decide +kernel); (focus simp only [go_sem]; done)) | exact bU | refine bF (uX ?_) ?_ | refine bG (aX ?_) ?_ | refine bH (aX ?_) ?_ | exact bE | (refine dB [(7, 8)] (by simp only [go_sem]; rfl) ?_; exact rfl) | exact oH | exact uB | refine rD ?_ | refine aO ?_ | fail)
        ·refine a3B [(5, 7)] (i + 1, eU (bW (fB b[i].fName) l) b[i] l) (by simp only [go_sem]; rfl) ?_ ?_ ?_
         ·simp only [go_sem]; simp [hfx, eU, aJ, ← List.map_take, ← List.map_drop]
         ·exact ⟨by omega, hq, by simp only; rw [tY _ _ _ hle]; omega⟩
         ·simp only; omega
  ·simp only [decide_eq_false_iff_not] at h
   have e : i = b.length := by omega
   subst e
   rw [List.drop_length, gM] at hq
   refine aD ?_
   exact aA ⟨⟨_, rfl, by simp only [go_sem, hq]⟩, trivial⟩
end Go.Proofs.YteaaopodnbjpoaaGreat
end
