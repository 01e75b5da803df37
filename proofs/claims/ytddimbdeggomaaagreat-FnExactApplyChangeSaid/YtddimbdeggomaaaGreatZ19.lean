/- Joined texts. -/
import Derived.Test.YtddimbdeggomaaaGreatZ16
import Derived.Test.YtddimbdeggomaaaGreatZ15
import Derived.Test.YtddimbdeggomaaaGreatZ11
import Derived.Test.YtddimbdeggomaaaGreatZ13
import Derived.Test.YtddimbdeggomaaaGreatZ12
import Derived.Test.YtddimbdeggomaaaGreatZ18
import Derived.Shelf.RegionOpenPlain
import Derived.WalkKit
import Derived.Lib.Walk
import Derived.Lib.SliceRun
import Derived.Lib.JoinLaws
import Derived.Lib.AppendZeros
import Derived.Lib.AppendZerosOnto
import Derived.Lib.Overlaps
import Derived.Laws.Externs
import Derived.Laws.NewBlocks
import Derived.Shelf.Spec.SlicesInsertGrow
import Derived.Test.YtddimbdeggomaaaGreatZ08
import Derived.Test.YtddimbdeggomaaaGreatZ09
import Derived.Test.YtddimbdeggomaaaGreatZ10
import Derived.Test.YtddimbdeggomaaaGreatZ07
import Derived.Deep.LoopGhost
import Derived.Deep.Draws
import Derived.Shelf.SlicesE.Kit
import Derived.Shelf.SlicesE.DeleteFunc
set_option linter.all false
section
namespace Go.Proofs.YtddimbdeggomaaaGreat
open Go Go.Sx Go.RowKit Go.Proofs Go.Sx.Clos
def oG (d : List TDir) (s : ByteArray) : Bool := bI d && decide (0 ≤ placeD d s)
def rmD (d : List TDir) (s : ByteArray) : List TDir := if oG d s then fH (placeD d s).toNat d else d
theorem b5u {α : Type} (p : α → Bool) : ∀ (l : List α) (h : fstIx p l < l.length), p l[fstIx p l] = true
 | [], h => by simp [fstIx] at h
 | x :: l, h => by
  cases hx : p x with
  | true =>
   have e : fstIx p (x :: l) = 0 := by unfold fstIx; rw [hx]; rfl
   simp only [e, List.getElem_cons_zero, hx]
  | false =>
   have e : fstIx p (x :: l) = fstIx p l + 1 := by rw [fstIx, hx]; rfl
   rw [e, List.length_cons] at h
   simp only [e, List.getElem_cons_succ]
   exact b5u p l (by omega)
theorem a9x (s : ByteArray) : ∀ l : List TDir, (l.map TDir.fName).Pairwise ltS → fstIx (eqD s) l < l.length → l.filter (fun e => !eqD s e) = fH (fstIx (eqD s) l) l
 | [], _, h => by simp [fstIx] at h
 | e :: l, h, hl => by
  rw [List.map_cons, List.pairwise_cons] at h
  obtain ⟨h1, h2⟩ := h
  cases hx : eqD s e with
  | true =>
   have e0 : fstIx (eqD s) (e :: l) = 0 := by unfold fstIx; rw [hx]; rfl
   have hes : e.fName = s := by simpa [eqD] using hx
   rw [e0, List.filter_cons, hx]
   have : l.filter (fun e => !eqD s e) = l := List.filter_eq_self.2 fun y hy => by
    have h3 := h1 y.fName (List.mem_map.2 ⟨y, hy, rfl⟩)
    have hn : y.fName ≠ s := fun e' => by rw [hes, e'] at h3; exact qM _ h3
    simp [eqD, hn]
   simp [this, fH]
  | false =>
   have e1 : fstIx (eqD s) (e :: l) = fstIx (eqD s) l + 1 := by rw [fstIx, hx]; rfl
   rw [e1, List.length_cons] at hl
   have ih := a9x s l h2 (by omega)
   rw [e1, List.filter_cons, hx, ih]
   simp [fH]
theorem b6Q {d : List TDir} (h : (d.map TDir.fName).Pairwise ltS) {i j : Nat} (hi : i < d.length) (hj : j < d.length) (e : d[i].fName = d[j].fName) : i = j := by
 have key : ∀ a b (ha : a < d.length) (hb : b < d.length), a < b → d[a].fName ≠ d[b].fName := fun a b ha hb hab he => by
  have := List.pairwise_iff_getElem.1 h a b (by simpa using ha) (by simpa using hb) hab
  simp only [List.getElem_map] at this
  rw [he] at this
  exact qM _ this
 rcases Nat.lt_trichotomy i j with h1 | h1 | h1
 ·exact absurd e (key i j hi hj h1)
 ·exact h1
 ·exact absurd e.symm (key j i hj hi h1)
theorem a2L {d : List TDir} {s : ByteArray} {k : Nat} (h : placeD d s = (k : Int)) : ∃ hk : k < d.length, d[k].fName = s := by
 rcases placeD_fst d s with ⟨h1, _⟩ | ⟨h1, h2⟩
 ·omega
 ·have e : k = fstIx (eqD s) d := by omega
  subst e
  exact ⟨h2, by simpa [eqD] using b5u _ _ h2⟩
theorem b3G {d : List TDir} (h : (d.map TDir.fName).Pairwise ltS) {s : ByteArray} {k : Nat} (hk : k < d.length) (e : d[k].fName = s) : placeD d s = (k : Int) := by
 rcases placeD_cases d s with h1 | ⟨j, h1, h2⟩
 ·rcases placeD_fst d s with ⟨_, h3⟩ | ⟨h3, _⟩
  ·exfalso
   have : ∀ l : List TDir, fstIx (eqD s) l = l.length → ∀ x ∈ l, x.fName ≠ s := by
    intro l
    induction l with
    | nil => intro _ x hx; simp at hx
    | cons y l ih =>
     intro hl x hx
     cases hy : eqD s y with
     | true => rw [show fstIx (eqD s) (y :: l) = 0 by unfold fstIx; rw [hy]; rfl] at hl; simp at hl
     | false =>
      rw [show fstIx (eqD s) (y :: l) = fstIx (eqD s) l + 1 by rw [fstIx, hy]; rfl, List.length_cons] at hl
      rcases List.mem_cons.1 hx with rfl | hx
      ·simpa [eqD] using hy
      ·exact ih (by omega) x hx
   exact this d h3 d[k] (List.getElem_mem hk) e
  ·omega
 ·obtain ⟨h3, h4⟩ := a2L h1
  rw [h1, b6Q h h3 hk (by rw [h4, e])]
theorem b8m {d : List TDir} (p : Nat) (h : (d.map TDir.fName).Pairwise ltS) : ((fH p d).map TDir.fName).Pairwise ltS := by
 refine h.sublist (List.Sublist.map _ ?_)
 conv => rhs; rw [← List.take_append_drop p d]
 refine List.Sublist.append_left ?_ _
 rw [← List.drop_drop]
 exact List.drop_sublist _ _
def shl (p k : Nat) : Nat := if k < p then k else k + 1
theorem a3n {α : Type} {p k : Nat} {l : List α} (h : p < l.length) (hk : k < (fH p l).length) : ∃ h' : shl p k < l.length, (fH p l)[k] = l[shl p k] := by
 have hl := wF h
 unfold shl
 by_cases e : k < p
 ·exact ⟨by rw [if_pos e]; omega, by rw [a7D h hk e]; simp [e]⟩
 ·exact ⟨by rw [if_neg e]; omega, by rw [b0P h hk e]; simp [e]⟩
theorem b1f {d : List TDir} {p : Nat} (hp : p < d.length) (h : bI d = true) : bI (fH p d) = true := by
 have hpw := b8m p (yY h)
 have hl := wF hp
 unfold bI at h ⊢
 rw [Bool.and_eq_true, List.all_eq_true, decide_eq_true_eq] at h ⊢
 refine ⟨fun k hk => ?_, by omega⟩
 have hk := List.mem_range.1 hk
 obtain ⟨h', e⟩ := a3n hp hk
 have h1 := h.1 (shl p k) (List.mem_range.2 h')
 unfold jJ at h1 ⊢
 rw [List.getElem?_eq_getElem h'] at h1
 rw [List.getElem?_eq_getElem hk, e]
 simp only [Bool.and_eq_true] at h1 ⊢
 refine ⟨h1.1, ?_, h1.2.2⟩
 by_cases h0 : 0 < k
 ·rw [kK TDir.fName _ k h0 hk]
  have := List.pairwise_iff_getElem.1 hpw (k - 1) k (by simp only [List.length_map]; omega) (by simpa using hk) (by omega)
  simp only [List.getElem_map] at this
  exact (oV _ _).2 this
 ·exact rF TDir.fName _ k h0
theorem b6R {d : List TDir} {p : Nat} (hp : p < d.length) (h : kZ d = true) : kZ (fH p d) = true := by
 obtain ⟨hv, hleast⟩ := qI h
 have hpw := yY hv
 have hl := wF hp
 unfold kZ
 rw [if_pos (b1f hp hv)]
 have hF := hleast.clo
 generalize resL d = F at hF
 have hFl := hF.len
 have hlv : ∀ j, j < d.length - 1 → lv (fH p F) j = lv F (shl p j) := fun j hj => by
  have hc := wF (l := F) (p := p) (by omega)
  have hj' : j < (fH p F).length := by omega
  obtain ⟨h', e⟩ := a3n (by omega) hj'
  unfold lv
  rw [List.getD_eq_getElem?_getD, List.getD_eq_getElem?_getD, List.getElem?_eq_getElem hj', List.getElem?_eq_getElem h', e]
 refine yU (L := fH p F) ⟨?_, fun i k w he => ?_⟩
 ·rw [wF (by omega), hl, hFl]
 ·have hb := (tY (fH p d)).ok i k w he
  rw [hlv k (by omega), hlv i (by omega)]
  obtain ⟨x, hx, he⟩ := (a0k _ i k w).1 he
  have hi := (List.getElem?_eq_some_iff.1 hx).1
  obtain ⟨hsi, ei⟩ := a3n hp hi
  rw [List.getElem?_eq_getElem hi, ei] at hx
  have mv : ∀ nm, placeD (fH p d) nm = (k : Int) → placeD d nm = ((shl p k : Nat) : Int) := fun nm hn => by
   obtain ⟨hk, e⟩ := a2L hn
   obtain ⟨hsk, ek⟩ := a3n hp hk
   exact b3G hpw hsk (by rw [← ek, e])
  refine hF.le _ _ _ ((a0k d _ _ w).2 ⟨x, by rw [List.getElem?_eq_getElem hsi, hx], ?_⟩)
  rcases he with ⟨rfl, nm, q1, q2⟩ | ⟨rfl, nm, q1, q2⟩
  ·exact .inl ⟨rfl, nm, q1, mv nm q2⟩
  ·exact .inr ⟨rfl, nm, q1, mv nm q2⟩
theorem a9y {d : List TDir} {s : ByteArray} (h : oG d s = true) : ∃ k : Nat, placeD d s = (k : Int) ∧ k < d.length ∧ fstIx (eqD s) d = k ∧ rmD d s = fH k d := by
 have h' := h
 unfold oG at h'
 rw [Bool.and_eq_true, decide_eq_true_eq] at h'
 rcases placeD_fst d s with ⟨h1, _⟩ | ⟨h1, h2⟩
 ·omega
 ·exact ⟨_, h1, h2, rfl, by unfold rmD; rw [if_pos h, h1, Int.toNat_natCast]⟩
theorem b8n {d : List TDir} {s : ByteArray} (h : kZ d = true) (hr : oG d s = true) : kZ (rmD d s) = true := by
 obtain ⟨k, _, hk, _, e⟩ := a9y hr
 rw [e]; exact b6R hk h
theorem b6S {d : List TDir} {s : ByteArray} (hr : oG d s = true) : d.filter (fun e => !eqD s e) = rmD d s := by
 obtain ⟨k, _, hk, ek, e⟩ := a9y hr
 have hv : bI d = true := by unfold oG at hr; rw [Bool.and_eq_true] at hr; exact hr.1
 rw [e, a9x s d (yY hv) (by omega), ek]
theorem b2f (d : List TDir) (s : ByteArray) : aP (rmD d s) ≤ aP d := by
 unfold rmD
 split
 ·have h := b5m wDir (placeD d s).toNat d
  have hl : (fH (placeD d s).toNat d).length ≤ d.length := by simp [fH]; omega
  unfold aP; omega
 ·omega
end Go.Proofs.YtddimbdeggomaaaGreat
end
section
namespace Go.Proofs.YtddimbdeggomaaaGreat
open Go Go.Sx Go.RowKit Go.Proofs Go.Lib
set_option maxHeartbeats 4000000 in
set_option maxRecDepth 1000000 in
theorem a7N (b c i n : Nat) (F : List Value) (w : World) (hi : i < n) (hn : n ≤ c) (hc63 : c ≤ 9223372036854775807) (hF : F.length = n * 2) (hR : RowAt w w b 93 (c * 2) F) (h1F : ∀ v ∈ F, v.oneCell' = true) :
    Calls Tryz.prog 231 #[.slice (some ⟨b, 0, none⟩) n c, .int .i64 i, .int .i64 ((i : Int) + 1)] w fun e w' =>
     e = .returned (.slice (some ⟨b, 0, none⟩) (n - 1) c) ∧ ∃ G, RowAt w w' b 93 (c * 2) (F.take (i * 2) ++ F.drop ((i + 1) * 2) ++ G) := by
 obtain ⟨i0, hi0, hzs⟩ : ∃ i0, Tryz.prog.info? 93 = some i0 ∧ i0.size = 2 := ⟨Tryz.t93, by kernel_rfl, rfl⟩
 have hdl : (F.drop ((i + 1) * 2)).length = (n - (i + 1)) * 2 := by rw [List.length_drop, hF, Nat.sub_mul]
 have h1D : ∀ v ∈ F.drop ((i + 1) * 2), v.oneCell' = true := fun v hv => h1F v (List.mem_of_mem_drop hv)
 have hsrc : ∀ a cc, (n - (i + 1) ≠ 0 → a = ⟨b, (i + 1) * 2, none⟩) → Src Tryz.prog i0.size 41 (.slice (some a) (n - (i + 1)) cc) (n - (i + 1)) (F.drop ((i + 1) * 2)) w.drew := fun a cc ha => by
  have hRd := hR.drew
  refine Src.ofSlice w.drew Tryz.underlying41 a (n - (i + 1)) cc _ (by rw [hzs, hdl]) (fun j u hj => ?_) h1D
  have hjl := (List.getElem?_eq_some_iff.1 hj).1
  rw [hdl] at hjl
  rw [ha (by intro e; rw [e] at hjl; omega), Addr.add_lit]
  exact hRd.cell (by rwa [List.getElem?_drop] at hj)
 have hsub : i + (n - (i + 1)) = n - 1 := by omega
 have hle1 : i * 2 + (n - (i + 1)) * 2 ≤ c * 2 := by rw [← Nat.add_mul]; exact Nat.mul_le_mul_right _ (by omega)
 have hle2 : i * 2 ≤ n * 2 := Nat.mul_le_mul_right _ (by omega)
 have hRd := hR.drew
 have hrun : ∀ a cc ty, (n - (i + 1) ≠ 0 → a = ⟨b, (i + 1) * 2, none⟩) → (Builtin.append_ #[41, 41] ty #[.slice (some ⟨b, 0, none⟩) i c, .slice (some a) (n - (i + 1)) cc]).run Tryz.prog w.drew = .ok (.slice (some ⟨b, 0, none⟩) (n - 1) c) (w.drew.setCells b (i * 2) (F.drop ((i + 1) * 2))) := fun a cc ty ha => by
  have h := run_append_room_src w.drew 41 41 ty 93 i0 Tryz.underlying41 hi0 b 0 i c _ (n - (i + 1)) _ (hsrc a cc ha) (by omega) (fun j hj => hRd.there (by rw [hdl] at hj; rw [hzs]; omega)) (fun j hj => hRd.frozen _)
  rw [hzs, Nat.zero_add, hsub] at h
  exact h
 have hR1 := hRd.set (F.drop ((i + 1) * 2)) (s := i * 2) (by rw [hF]; exact hle2) (by rw [hdl]; exact hle1)
 obtain ⟨W1, hW1⟩ : ∃ W1, W1 = w.drew.setCells b (i * 2) (F.drop ((i + 1) * 2)) := ⟨_, rfl⟩
 rw [← hW1] at hrun hR1
 have hlF1 : (F.take (i * 2) ++ F.drop ((i + 1) * 2) ++ F.drop (i * 2 + (F.drop ((i + 1) * 2)).length)).length = n * 2 := by
  simp only [List.length_append, List.length_take, List.length_drop, hF]
  have h1 : (i + 1) * 2 ≤ n * 2 := Nat.mul_le_mul_right _ hi
  rw [Nat.add_mul] at h1 ⊢
  omega
 have hn1 : (n - 1) * 2 + 2 = n * 2 := by
  have : (n - 1 + 1) * 2 = n * 2 := by congr 1; omega
  rw [Nat.add_mul] at this; omega
 have hnc : n * 2 ≤ c * 2 := Nat.mul_le_mul_right _ hn
 have hzl := sD (.agg #[.string ⟨#[]⟩, .slice none 0 0] : Value).cells 1
 have hz5 : (.agg #[.string ⟨#[]⟩, .slice none 0 0] : Value).cells.size = 2 := rfl
 rw [hz5] at hzl
 have hcl : ∀ ty cc, (Builtin.clear_ #[41] ty #[.slice (some ⟨b, (n - 1) * 2, none⟩) 1 cc]).run Tryz.prog W1 = .ok (.tuple #[]) (W1.setCells b ((n - 1) * 2) (Builtin.zeroCells (.agg #[.string ⟨#[]⟩, .slice none 0 0] : Value).cells 1).toList) :=
  fun ty cc => a2I W1 _ _ ty _ Tryz.underlying41 (fun w => Tryz.zeroValue93 w) b ((n - 1) * 2) _ _ (by omega) (fun t ht => hR1.there (by rw [hz5] at ht; omega)) (fun t ht => hR1.frozen _) (zS (by intro v hv; simp [Value.cells] at hv; rcases hv with rfl | rfl <;> rfl) _)
 have HE : Aside (∃ G, RowAt w (W1.setCells b ((n - 1) * 2) (Builtin.zeroCells (.agg #[.string ⟨#[]⟩, .slice none 0 0] : Value).cells 1).toList) b 93 (c * 2) (F.take (i * 2) ++ F.drop ((i + 1) * 2) ++ G)) := by
  have h := hR1.set (Builtin.zeroCells (.agg #[.string ⟨#[]⟩, .slice none 0 0] : Value).cells 1).toList (s := (n - 1) * 2) (by rw [hlF1]; omega) (by rw [hzl]; omega)
  have hd1 : (F.take (i * 2) ++ F.drop ((i + 1) * 2)).length = (n - 1) * 2 := by
   simp only [List.length_append, List.length_take, hdl, hF]
   have h2 : i * 2 + (n - (i + 1)) * 2 = (n - 1) * 2 := by rw [← Nat.add_mul, hsub]
   omega
  rw [List.take_append_of_le_length (by rw [hd1]; omega), List.take_of_length_le (by rw [hd1]; omega), List.append_assoc] at h
  exact ⟨_, h⟩
 have hb3 : (i : Int) + 1 ≤ (n : Int) := by omega
 have hb1 : (0 : Int) ≤ (i : Int) + 1 := by omega
 have hb4 : ¬ ((i : Int) = (i : Int) + 1) := by omega
 have hb5 : (i : Int) ≤ (i : Int) + 1 := by omega
 have htn : ((i : Int) + 1).toNat = i + 1 := by omega
 have hin : i ≤ n := by omega
 have hic : i ≤ c := by omega
 have hb6 : ((n - 1 : Nat) : Int) ≤ (n : Int) := by omega
 have hb7 : n - (n - 1) = 1 := by omega
 have hb8 : ¬ (c = n - 1) := by omega
 have mixed := fol
 clear hR hRd hR1 hsrc h1F h1D hlF1 hzl hz5 hn1 hnc hle1 hle2
 by_cases hci : c = i + 1
 ·have hni : n = i + 1 := by omega
  subst hni
  subst hci
  have hnil : F.drop ((i + 1) * 2) = [] := List.eq_nil_of_length_eq_zero (by rw [hdl, Nat.sub_self, Nat.zero_mul])
  have hW0 : W1 = w.drew := by rw [hW1, hnil]; rfl
  rw [hW0] at hcl HE
  simp only [Nat.add_sub_cancel] at hcl HE
  clear hW1 hW0 hF hdl hrun hnil
  go_enter Tryz.func231, Tryz.ntmps231
  go_wp2_with fail
  go_region_law_o (fail)
  go_wp2
  go_ret
  exact ⟨rfl, HE.out⟩
 ·clear hW1 hF hdl
  go_enter Tryz.func231, Tryz.ntmps231
  go_wp2_with fail
  go_region_law_o (refine uL rfl _ _ 41 41 rfl (.slice (some ⟨b, 0, none⟩) i c) (.slice (some ⟨b, (i + 1) * 2, none⟩) (n - (i + 1)) (c - (i + 1))) (by simp [Act.eval, Act.put]) (by simp [Act.eval, Act.put]) (hrun ⟨b, (i + 1) * 2, none⟩ (c - (i + 1)) _ (fun _ => rfl)) ?_)
  go_wp2
  go_ret
  exact ⟨rfl, HE.out⟩
theorem a5f (l : List TDir) (i : Nat) (hi : i < l.length) (hl : l.length ≤ 8388608) :
    FnI Tryz.prog 231 93 2 (l.map aM) [oi i, oi ((i : Int) + 1)] false ((fH i l).map aM) := by
 refine ⟨Tryz.call231, fun V w y S vs hm hrow hnd hlt hargs => ?_⟩
 have hl1 : vs.length = 2 := by have := hargs.1; simpa using this
 match vs, hl1 with
 | [v1, v2], _ =>
  obtain ⟨_, e1⟩ : ∃ S, Lay V (.v (.int .i64 i)) v1 S := hargs.2 0 _ v1 rfl rfl
  obtain ⟨_, e2⟩ : ∃ S, Lay V (.v (.int .i64 ((i : Int) + 1))) v2 S := hargs.2 1 _ v2 rfl rfl
  cases e1; cases e2
  obtain ⟨hu, h⟩ := a1A hrow
  have hi' : i < (l.map aM).length := by simpa using hi
  rcases h with ⟨_, hnil, _⟩ | ⟨b, cap, ys, Ss, rfl, e3, e4, hR, el, eL, eV, rfl⟩
  ·rw [hnil] at hi'; exact absurd hi' (by simp)
  ·have hup2 := eL.take (i * 2)
   have hup3 := eL.drop ((i + 1) * 2)
   rw [← uK i hu] at hup2
   rw [← nC (i + 1) hu] at hup3
   have hL := hup2.append hup3
   rw [← List.flatten_append] at hL
   refine (a7N b cap i (l.map aM).length ys w hi' e3 (by unfold maxLen at e4; omega) el hR eL.oneCell).mono ?_
   rintro e w' ⟨rfl, G, hG⟩
   have hlen : ((l.map aM).take i ++ (l.map aM).drop (i + 1)).length = (l.map aM).length - 1 := by simp; omega
   have hrw := b0T (V := V) (cap := cap) (fun r hr => by
    rcases List.mem_append.1 hr with h' | h'
    ·exact hu r (List.mem_of_mem_take h')
    ·exact hu r (List.mem_of_mem_drop h')) hL hG (by rw [hlen]; omega) e4 eV
   rw [hlen] at hrw
   have hsub : (Ss.take (i * 2) ++ Ss.drop ((i + 1) * 2)).Sublist Ss := by
    conv => rhs; rw [← List.take_append_drop (i * 2) Ss]
    refine List.Sublist.append_left ?_ _
    rw [Nat.add_mul, ← List.drop_drop]
    exact List.drop_sublist _ _
   have hfs := a2K hsub
   refine ⟨_, rfl, (fun h => (by cases h)), ⟨hG.grown, b :: (Ss.take (i * 2) ++ Ss.drop ((i + 1) * 2)).flatten, ?_, ?_, (fun n hn => .inl ?_), (fun h => (by cases h))⟩⟩
   ·rw [b1Z]; exact hrw
   ·exact hnd.sublist (hfs.cons_cons b)
   ·exact (hfs.cons_cons b).subset hn
end Go.Proofs.YtddimbdeggomaaaGreat
end
section
set_option maxRecDepth 100000
set_option maxHeartbeats 4000000
namespace Go.Proofs.YtddimbdeggomaaaGreat
open Go Go.Sx Go.RowKit Go.Proofs Go.Sx.Clos
theorem b3D (d : List TDir) (s : ByteArray) (h : aP d ≤ 4200000) : FnC Tryz.prog 152 [.o (.d (.sl (d.map aM))), os s] (.t [(false, [.w 93 2 ((rmD d s).map aM)]), (false, [.d (bv (oG d s))])]) := by
 have hl : d.length ≤ 4200000 := by unfold aP at h; omega
 have ha := a1q d s (by omega)
 refine ent Tryz.func152 rfl Tryz.call152 rfl (fun C => ?_); simp only [go_sem, st0, Tryz.ntmps152]
 cases h1 : bI d
 ·have e : oG d s = false := by simp [oG, h1]
  have q0 := @h1; refine a1N (lI d (by omega)) ha (gH d (by omega)) ?_
  exact aA ⟨⟨_, rfl, by simp only [go_sem, rmD, e]; try simp⟩, by simp [aK]⟩
 rcases placeD_cases d s with e1 | ⟨p, e1, e2⟩
 ·have e : oG d s = false := by simp [oG, e1]
  have hm : (-1 : Int) < 0 := by omega
  rw [e1] at ha
  have q0 := @h1; have q1 := @hm; have q2 := @decide_true; refine a8z (lI d (by omega)) ha (gH d (by omega)) ?_
  exact aA ⟨⟨_, rfl, by simp only [go_sem, rmD, e]; try simp⟩, by simp [aK]⟩
 ·have e : oG d s = true := by simp [oG, h1, e1]
  have hm : ¬ (p : Int) < 0 := by omega
  rw [e1] at ha
  have qH := aI @h1 (aI @hm @decide_false); repeat' (with_reducible first | refine nY ?_ | (refine mX ?_; try simp only [go_sem, qH]) | refine kD ?_ | refine rD ?_ | refine cP (lI d (by omega)) ?_ | refine cP ha ?_ | refine cP (gH d (by omega)) ?_ | refine vI (a5f d p e2 (by omega)) ?_ | refine vJ (a5f d p e2 (by omega)) ?_ | refine aO ?_ | fail)
  exact aA ⟨⟨_, rfl, by simp only [go_sem, rmD, e, e1, Int.toNat_natCast, if_true]; try simp⟩, by simp [aK]⟩
theorem b3E (s : ByteArray) (l : List TDir) (k : Nat) (h : k < l.length) : (l.take (k + 1)).filter (fun e => !eqD s e) = (l.take k).filter (fun e => !eqD s e) ++ (if eqD s l[k] then [] else [l[k]]) := by
 simp only [List.take_succ_eq_append_getElem h, List.filter_append, List.filter_cons, List.filter_nil]
 cases eqD s l[k] <;> rfl
theorem b3F (d : List TDir) (s : ByteArray) (h : aP d ≤ 4200000) : FnC Tryz.prog 229 [.o (.d (.sl (d.map aM))), os s] (.t [(false, [.w 93 2 ((rmD d s).map aM)]), (false, [.d (bv (oG d s))])]) := by
 have hl : d.length ≤ 4200000 := by unfold aP at h; omega
 have ha := jW d s (by omega)
 refine ent Tryz.func229 rfl Tryz.call229 rfl (fun C => ?_); simp only [go_sem, st0, Tryz.ntmps229]
 cases h1 : bI d
 ·have e : oG d s = false := by simp [oG, h1]
  have q0 := @h1; refine a1N (nS d (by omega)) ha (iK d (by omega)) ?_
  exact aA ⟨⟨_, rfl, by simp only [go_sem, rmD, e]; try simp⟩, by simp [aK]⟩
 rcases placeD_cases d s with e1 | ⟨p, e1, e2⟩
 ·have e : oG d s = false := by simp [oG, e1]
  have hm : (-1 : Int) < 0 := by omega
  rw [e1] at ha
  have q0 := @h1; have q1 := @hm; have q2 := @decide_true; refine a8z (nS d (by omega)) ha (iK d (by omega)) ?_
  exact aA ⟨⟨_, rfl, by simp only [go_sem, rmD, e]; try simp⟩, by simp [aK]⟩
 ·have e : oG d s = true := by simp [oG, h1, e1]
  have hm : ¬ (p : Int) < 0 := by omega
  have hfl := b6S e
  have hww := b2f d s
  have hcp := nS (rmD d s) (by omega)
  rw [e1] at ha
  have q0 := @h1; have q1 := @hm; have q2 := @decide_false; refine a6X ha (iK d (by omega)) ?_
  refine b0h 0 rfl ?_
  simp only [go_sem]
  refine aN (α := Nat) (fun k => [(6, .o (.s 0)), (7, oi k), (19, .o .u)]) (fun k => [(0, .row 93 2 (((d.take k).filter (fun e => !eqD s e)).map aM) false)]) (fun k => k ≤ d.length) (fun k => d.length - k) 0 (fun _ => ?_) ?_ ?_ (fun k hk => ?_)
  ·simp only [go_sem]
  ·simp only [go_sem]; simp
  ·simp
  ·simp only [go_sem]
   refine aD ?_
   refine cnd rfl (fun h2 => ?_) (fun h2 => ?_)
   ·simp only [decide_eq_true_eq, Int.ofNat_lt] at h2
    have ht := b3E s d k h2
    have hlen : ((d.take k).filter (fun e => !eqD s e)).length ≤ 4200000 := Nat.le_trans (List.length_filter_le _ _) (by simp; omega)
    have hl1 : ((d.take k).filter (fun e => !eqD s e)).length + 1 ≤ 140737488355328 := by omega
    have hl2 : (((d.take k).filter (fun e => !eqD s e)).length + 1) * 40 ≤ 140737488355328 := by omega
    by_cases h3 : d[k].fName = s
    ·have h3' : eqD s d[k] = true := by simp [eqD, h3]
     rw [h3'] at ht
     have q0 := @h2; have q1 := @h3; have q2 := @decide_true; refine mG ?_
     refine aF (k + 1) ?_ ?_ ?_
     ·simp only [go_sem, ht, List.map_append]; simp
     ·omega
     ·omega
    ·have h3' : eqD s d[k] = false := by simp [eqD, h3]
     rw [h3'] at ht
     have q0 := @h2; have q1 := @h3; have q2 := @decide_false; refine mG ?_
     refine aF (k + 1) ?_ ?_ ?_
     ·simp only [go_sem, ht, List.map_append]; simp [aM]
     ·omega
     ·omega
   ·simp only [decide_eq_false_iff_not] at h2
    have ek : k = d.length := by omega
    subst ek
    rw [List.take_length, hfl]
    refine gP hcp ?_
    exact aA ⟨⟨_, rfl, by simp only [go_sem, e]; try simp⟩, by simp [aK]⟩
end Go.Proofs.YtddimbdeggomaaaGreat
end
section
set_option maxRecDepth 100000
set_option maxHeartbeats 4000000
namespace Go.Proofs.YtddimbdeggomaaaGreat
open Go Go.Sx Go.RowKit Go.Proofs
theorem sH (s : TStore) (f : TFile) (hs : aL s ≤ 4300000) (hf : wFile f ≤ 4300000) : FnC Tryz.prog 114 [dJ s, dC f] (.t [(true, (xL (nA s f)).cells), (false, [.d (iv (a1z s f))]), (false, [.d (bv (iU s f))])]) := by
 have h1 : aQ s.fSchema ≤ 4300000 := by unfold aL at hs; omega
 have h2 : s.fFiles.length ≤ 4300000 := by unfold aL bU at hs; omega
 have h3 : f.fAttrs.length ≤ 4300000 := by unfold wFile eB at hf; omega
 have hm : (mkF s f) = ⟨s.fNextID, f.fOwner, f.fShared, f.fLink, f.fAttrs⟩ := rfl
 refine ent Tryz.func114 rfl Tryz.call114 rfl (fun C => ?_); simp only [go_sem, st0, Tryz.ntmps114]
 cases hv : bS s
 ·have e : iU s f = false := by simp [iU, hv]
  have q0 := @hv; refine a1N (fK s hs) (mV f h3) (eF s hs) ?_
  exact aA ⟨⟨_, rfl, by simp only [go_sem, nA, a1z, e]; try simp⟩, by simp [aK]⟩
 by_cases hl : s.fFiles.length < 12
 case neg =>
  have e : iU s f = false := by simp [iU, hl]
  have hz : (12 : Int) ≤ (s.fFiles.length : Int) := by omega
  have q0 := @hv; have q1 := @hz; have q2 := @decide_true; refine a8z (fK s hs) (mV f h3) (eF s hs) ?_
  exact aA ⟨⟨_, rfl, by simp only [go_sem, nA, a1z, e]; try simp⟩, by simp [aK]⟩
 have hz : ¬ (12 : Int) ≤ (s.fFiles.length : Int) := by omega
 cases ho : eP s.fSchema (mkF s f)
 ·have e : iU s f = false := by simp [iU, ho]
  have hk := gN s.fSchema (mkF s f) h1 hf
  rw [ho, hm] at hk
  have qH := aI @hv (aI @hz @decide_false); repeat' (with_reducible first | refine nY ?_ | (refine mX ?_; try simp only [go_sem, qH]) | refine kD ?_ | refine rD ?_ | refine cP (fK s hs) ?_ | refine cP (mV f h3) ?_ | refine cP (eF s hs) ?_ | refine vR hk ?_ | refine vD hk ?_ | refine aO ?_ | fail)
  exact aA ⟨⟨_, rfl, by simp only [go_sem, nA, a1z, e]; try simp⟩, by simp [aK]⟩
 ·have e : iU s f = true := by simp [iU, hv, hl, ho]
  have hid := a2h ho
  have hid2 : 1 ≤ s.fNextID ∧ s.fNextID ≤ 60 := hid
  have hk := gN s.fSchema (mkF s f) h1 hf
  rw [ho, hm] at hk
  have qH := aI @hv (aI @hz @decide_false); repeat' (with_reducible first | refine nY ?_ | (refine mX ?_; try simp only [go_sem, qH]) | refine kD ?_ | (apply rE [3] [] [0,1,2] [0,1,2] ((.c 3 [4,5] [1,2,4,5] .n .n)) (by simp only [go_sem]; rfl) (by simp only [go_sem]; rfl) (by simp only [go_sem]; rfl) (by decide +kernel); (focus simp only [go_sem]; done)) | exact dN | refine cB (uX ?_) ?_ | refine cK (aX ?_) ?_ | refine cO (aX ?_) ?_ | exact bZ | exact oH | exact uB | refine rD ?_ | refine cP (fK s hs) ?_ | refine cP (mV f h3) ?_ | refine cP (eF s hs) ?_ | refine vR hk ?_ | refine vG hk ?_ | refine aO ?_ | fail)
  exact aA ⟨⟨_, rfl, by simp only [go_sem, nA, a1z, e, if_true, List.map_append, mkF]; try simp [bB]⟩, by simp [aK]⟩
theorem a5y (s : TStore) (f : TFile) (hs : aL s ≤ 4300000) (hf : wFile f ≤ 4300000) : FnC Tryz.prog 109 [dJ s, dC f] (.t [(true, (xL (nA s f)).cells), (false, [.d (iv (a1z s f))]), (false, [.d (bv (iU s f))])]) := by
 have h1 : aQ s.fSchema ≤ 4300000 := by unfold aL at hs; omega
 have h2 : s.fFiles.length ≤ 4300000 := by unfold aL bU at hs; omega
 have h3 : f.fAttrs.length ≤ 4300000 := by unfold wFile eB at hf; omega
 have hm : (mkF s f) = ⟨s.fNextID, f.fOwner, f.fShared, f.fLink, f.fAttrs⟩ := rfl
 refine ent Tryz.func109 rfl Tryz.call109 rfl (fun C => ?_); simp only [go_sem, st0, Tryz.ntmps109]
 cases hv : bS s
 ·have e : iU s f = false := by simp [iU, hv]
  have qH := @hv; repeat' (with_reducible first | refine nY ?_ | (refine mX ?_; try simp only [go_sem, qH]) | refine kD ?_ | refine rD ?_ | refine cP (kR s hs) ?_ | refine cP (qF f h3) ?_ | refine vR (bJ s hs) ?_ | refine vD (bJ s hs) ?_ | refine aO ?_ | fail)
  exact aA ⟨⟨_, rfl, by simp only [go_sem, nA, a1z, e]; try simp⟩, by simp [aK]⟩
 by_cases hl : s.fFiles.length < 12
 case neg =>
  have e : iU s f = false := by simp [iU, hl]
  have hz : (12 : Int) ≤ (s.fFiles.length : Int) := by omega
  have qH := aI @hv (aI @hz @decide_true); repeat' (with_reducible first | refine nY ?_ | (refine mX ?_; try simp only [go_sem, qH]) | refine kD ?_ | refine rD ?_ | refine cP (kR s hs) ?_ | refine cP (qF f h3) ?_ | refine vR (bJ s hs) ?_ | refine vD (bJ s hs) ?_ | refine aO ?_ | fail)
  exact aA ⟨⟨_, rfl, by simp only [go_sem, nA, a1z, e]; try simp⟩, by simp [aK]⟩
 have hz : ¬ (12 : Int) ≤ (s.fFiles.length : Int) := by omega
 cases ho : eP s.fSchema (mkF s f)
 ·have e : iU s f = false := by simp [iU, ho]
  have hk := fG s.fSchema (mkF s f) h1 hf
  rw [ho, hm] at hk
  have qH := aI @hv (aI @hz @decide_false); repeat' (with_reducible first | refine nY ?_ | (refine mX ?_; try simp only [go_sem, qH]) | refine kD ?_ | refine rD ?_ | refine cP (kR s hs) ?_ | refine cP (qF f h3) ?_ | refine vR (bJ s hs) ?_ | refine vD (bJ s hs) ?_ | refine vR hk ?_ | refine vD hk ?_ | refine aO ?_ | fail)
  exact aA ⟨⟨_, rfl, by simp only [go_sem, nA, a1z, e]; try simp⟩, by simp [aK]⟩
 ·have e : iU s f = true := by simp [iU, hv, hl, ho]
  have hid := a2h ho
  have hid2 : 1 ≤ s.fNextID ∧ s.fNextID ≤ 60 := hid
  have hk := fG s.fSchema (mkF s f) h1 hf
  rw [ho, hm] at hk
  have qH := aI @hv (aI @hz @decide_false); repeat' (with_reducible first | refine nY ?_ | (refine mX ?_; try simp only [go_sem, qH]) | refine kD ?_ | (apply rE [3] [] [0,1,2] [0,1,2] ((.c 3 [4,5] [1,2,4,5] .n .n)) (by simp only [go_sem]; rfl) (by simp only [go_sem]; rfl) (by simp only [go_sem]; rfl) (by decide +kernel); (focus simp only [go_sem]; done)) | exact dN | refine cB (uX ?_) ?_ | refine cK (aX ?_) ?_ | refine cO (aX ?_) ?_ | exact bZ | exact oH | exact uB | refine rD ?_ | refine cP (kR s hs) ?_ | refine cP (qF f h3) ?_ | refine vR (bJ s hs) ?_ | refine vG (bJ s hs) ?_ | refine vR hk ?_ | refine vG hk ?_ | refine aO ?_ | fail)
  exact aA ⟨⟨_, rfl, by simp only [go_sem, nA, a1z, e, if_true, List.map_append, mkF]; try simp [bB]⟩, by simp [aK]⟩
end Go.Proofs.YtddimbdeggomaaaGreat
end
section
set_option maxRecDepth 100000
set_option maxHeartbeats 4000000
namespace Go.Proofs.YtddimbdeggomaaaGreat
open Go Go.Sx Go.RowKit Go.Proofs
theorem qO (s : TStore) (f : TFile) (hs : aL s ≤ 4300000) (hf : wFile f ≤ 4300000) : FnC Tryz.prog 109 [dJ s, dC f] (.t [(true, (dJ (nA s f)).cells), (false, [.d (iv (a1z s f))]), (false, [.d (bv (iU s f))])]) := (a5y s f hs hf).pu (by simp only [go_sem, and_self])
noncomputable def a9z (c : TCatalog) (f : TFile) : List TResult := (evX (nA c.fStore f) c.fDirs c.fResults (dirNs c.fDirs)).1
noncomputable def qP (c : TCatalog) (f : TFile) : Bool := lM c && iU c.fStore f
noncomputable def qQ (c : TCatalog) (f : TFile) : TCatalog := if qP c f then ⟨nA c.fStore f, c.fDirs, a9z c f⟩ else c
noncomputable def a1F (c : TCatalog) (f : TFile) : Int := if qP c f then a1z c.fStore f else 0
noncomputable def sG (c : TCatalog) (f : TFile) : List TDiff := if qP c f then gL c.fResults (a9z c f) else []
theorem b8o {c : TCatalog} {f : TFile} (h1 : lM c = true) (h2 : iU c.fStore f = true) : evB (nA c.fStore f) c.fDirs = true := by
 unfold lM at h1
 rw [Bool.and_eq_true] at h1
 have h3 := h1.1
 unfold evB at h3 ⊢
 rw [Bool.and_eq_true] at h3 ⊢
 exact ⟨h3.1, b8b h2⟩
theorem b1g (c : TCatalog) (f : TFile) (h : wCatalog c + wFile f ≤ 4299999) : FnC Tryz.prog 43 [bH c, dC f] (.t [(true, (kQ (qQ c f)).cells), (false, [.d (iv (a1F c f))]), (false, [.w 158 3 ((sG c f).map dG)]), (false, [.d (bv (qP c f))])]) := by
 have hc : wCatalog c = aL c.fStore + aP c.fDirs + aH c.fResults := rfl
 have hw := b0S c.fStore f
 have hl : c.fDirs.length ≤ 4300000 := by unfold aP at hc; omega
 have hn : (dirNs c.fDirs).length ≤ 4300000 := by rw [lH]; exact hl
 refine ent Tryz.func43 rfl Tryz.call43 rfl (fun C => ?_); simp only [go_sem, st0, Tryz.ntmps43]
 cases h2 : iU c.fStore f
 ·have e : qP c f = false := by simp [qP, h2]
  have e1 : qQ c f = c := by simp [qQ, e]
  have e2 : a1F c f = 0 := by simp [a1F, e]
  have e3 : sG c f = [] := by simp [sG, e]
  have q0 := @h2; refine a1N (sH c.fStore f (by omega) (by omega)) (bN c (by omega)) (fB c (by omega)) ?_
  exact aA ⟨⟨_, rfl, by simp only [go_sem, e, e1, e2, e3, List.map_nil]; try simp⟩, by simp [aK]⟩
 cases h1 : lM c
 ·have e : qP c f = false := by simp [qP, h1]
  have e1 : qQ c f = c := by simp [qQ, e]
  have e2 : a1F c f = 0 := by simp [a1F, e]
  have e3 : sG c f = [] := by simp [sG, e]
  have q0 := @h1; have q1 := @h2; refine a8y (sH c.fStore f (by omega) (by omega)) (bN c (by omega)) (fB c (by omega)) ?_
  exact aA ⟨⟨_, rfl, by simp only [go_sem, e, e1, e2, e3, List.map_nil]; try simp⟩, by simp [aK]⟩
 ·have e : qP c f = true := by simp [qP, h1, h2]
  have hev := b8o h1 h2
  have e1 : qQ c f = ⟨nA c.fStore f, c.fDirs, (evX (nA c.fStore f) c.fDirs c.fResults (dirNs c.fDirs)).1⟩ := by simp [qQ, e, a9z]
  have e2 : a1F c f = a1z c.fStore f := by simp [a1F, e]
  have e3 : sG c f = gL c.fResults (evX (nA c.fStore f) c.fDirs c.fResults (dirNs c.fDirs)).1 := by simp [sG, e, a9z]
  have hk := b1z c (nA c.fStore f) c.fDirs (dirNs c.fDirs) (by omega) (by omega) (by omega) hn
  unfold chC chD at hk
  rw [hev] at hk
  simp only [if_true] at hk
  have qH := aI @h1 @h2; repeat' (with_reducible first | refine nY ?_ | (refine mX ?_; try simp only [go_sem, qH]) | refine kD ?_ | (apply rE [6,7,12,13] [] [0,1,2,3,4,5] [0,1,2,3,4,5] ((.c 6 [] [0,1,2,3] (.c 7 [8,9,10,11] [8,9,10,11] (.c 12 [] [8,9,10,11] (.c 13 [14,15] [10,11,14,15] .n .n) .n) (.c 12 [] [0,1,2,3] (.c 7 [8,9,10,11] [8,9,10,11] (.c 13 [14,15] [10,11,14,15] .n .n) .n) .n)) (.c 12 [] [0,1,2,3,4,5] (.c 6 [] [0,1,2,3] (.c 7 [8,9,10,11] [8,9,10,11] (.c 13 [14,15] [10,11,14,15] .n .n) .n) .n) .n))) (by simp only [go_sem]; rfl) (by simp only [go_sem]; rfl) (by simp only [go_sem]; rfl) (by decide +kernel); (focus simp only [go_sem]; done)) | exact dN | refine cB (uX ?_) ?_ | refine cK (aX ?_) ?_ | refine cO (aX ?_) ?_ | exact bZ | (refine a3k [(6, 7), (7, 8), (8, 9), (9, 10), (10, 11)] (by simp only [go_sem]; rfl) ?_; exact rfl) | exact oH | exact uB | refine rD ?_ | refine cP (sH c.fStore f (by omega) (by omega)) ?_ | refine cP (bN c (by omega)) ?_ | refine cP (a0P c.fDirs hl) ?_ | refine cP hk ?_ | refine aO ?_ | fail)
  exact aA ⟨⟨_, rfl, by simp only [go_sem, e, e1, e2, e3]; try simp⟩, by simp [aK]⟩
theorem b1h (c : TCatalog) (f : TFile) (h : wCatalog c + wFile f ≤ 4299999) : FnC Tryz.prog 40 [bH c, dC f] (.t [(true, (bH (qQ c f)).cells), (false, [.d (iv (a1F c f))]), (false, [.d (.sl ((sG c f).map dG))]), (false, [.d (bv (qP c f))])]) := by
 have hc : wCatalog c = aL c.fStore + aP c.fDirs + aH c.fResults := rfl
 have hw := b0S c.fStore f
 have hl : c.fDirs.length ≤ 4300000 := by unfold aP at hc; omega
 have hn : (dirNs c.fDirs).length ≤ 4300000 := by rw [lH]; exact hl
 refine ent Tryz.func40 rfl Tryz.call40 rfl (fun C => ?_); simp only [go_sem, st0, Tryz.ntmps40]
 cases h1 : lM c
 ·have e : qP c f = false := by simp [qP, h1]
  have e1 : qQ c f = c := by simp [qQ, e]
  have e2 : a1F c f = 0 := by simp [a1F, e]
  have e3 : sG c f = [] := by simp [sG, e]
  have q0 := @h1; refine a1N (bO c (by omega)) (qO c.fStore f (by omega) (by omega)) (bF c (by omega)) ?_
  first | refine aC (Sees.frz 1 rfl) ?_ | refine aC (Sees.frz 2 rfl) ?_ | refine aC (Sees.frz 3 rfl) ?_ | refine aC (Sees.frz 4 rfl) ?_ | refine aC (Sees.frz 5 rfl) ?_
  simp only [go_sem]
  exact aA ⟨⟨_, rfl, by simp only [go_sem, e, e1, e2, e3, List.map_nil]; try simp⟩, by simp [aK]⟩
 cases h2 : iU c.fStore f
 ·have e : qP c f = false := by simp [qP, h2]
  have e1 : qQ c f = c := by simp [qQ, e]
  have e2 : a1F c f = 0 := by simp [a1F, e]
  have e3 : sG c f = [] := by simp [sG, e]
  have q0 := @h1; have q1 := @h2; refine a8y (bO c (by omega)) (qO c.fStore f (by omega) (by omega)) (bF c (by omega)) ?_
  first | refine aC (Sees.frz 1 rfl) ?_ | refine aC (Sees.frz 2 rfl) ?_ | refine aC (Sees.frz 3 rfl) ?_ | refine aC (Sees.frz 4 rfl) ?_ | refine aC (Sees.frz 5 rfl) ?_
  simp only [go_sem]
  exact aA ⟨⟨_, rfl, by simp only [go_sem, e, e1, e2, e3, List.map_nil]; try simp⟩, by simp [aK]⟩
 ·have e : qP c f = true := by simp [qP, h1, h2]
  have e1 : qQ c f = ⟨nA c.fStore f, c.fDirs, (evX (nA c.fStore f) c.fDirs c.fResults (dirNs c.fDirs)).1⟩ := by simp [qQ, e, a9z]
  have e2 : a1F c f = a1z c.fStore f := by simp [a1F, e]
  have e3 : sG c f = gL c.fResults (evX (nA c.fStore f) c.fDirs c.fResults (dirNs c.fDirs)).1 := by simp [sG, e, a9z]
  have qH := aI @h1 @h2; repeat' (with_reducible first | refine nY ?_ | (refine mX ?_; try simp only [go_sem, qH]) | refine kD ?_ | (apply rE [6,7,11,12] [] [0,1,2,3,4,5] [0,1,2,3,4,5] ((.c 6 [] [0,1,2,3] (.c 7 [8,9,10] [8,9,10] (.c 11 [] [8,9,10] (.c 12 [13] [10,13] .n .n) .n) (.c 11 [] [0,1,2,3] (.c 7 [8,9,10] [8,9,10] (.c 12 [13] [10,13] .n .n) .n) .n)) (.c 11 [] [0,1,2,3,4,5] (.c 6 [] [0,1,2,3] (.c 7 [8,9,10] [8,9,10] (.c 12 [13] [10,13] .n .n) .n) .n) .n))) (by simp only [go_sem]; rfl) (by simp only [go_sem]; rfl) (by simp only [go_sem]; rfl) (by decide +kernel); (focus simp only [go_sem]; done)) | exact dN | refine cB (uX ?_) ?_ | refine cK (aX ?_) ?_ | refine cO (aX ?_) ?_ | exact bZ | exact oH | exact uB | refine rD ?_ | refine cP (bO c (by omega)) ?_ | refine cP (qO c.fStore f (by omega) (by omega)) ?_ | refine cP (bF c (by omega)) ?_ | refine cP (tJ c.fDirs hl) ?_ | refine cP (lV c (nA c.fStore f) c.fDirs (dirNs c.fDirs) (by omega) (by omega) (by omega) hn) ?_ | refine aO ?_ | fail)
  exact aA ⟨⟨_, rfl, by simp only [go_sem, e, e1, e2, e3]; try simp⟩, by simp [aK]⟩
theorem b9i (c : TCatalog) (f : TFile) (h : wCatalog c + wFile f ≤ 4299999) : aL (qQ c f).fStore ≤ 8600000 ∧ aP (qQ c f).fDirs ≤ 8600000 ∧ aH (qQ c f).fResults ≤ 8600000 ∧ fV (sG c f) ≤ 8600000 := by
 have hc : wCatalog c = aL c.fStore + aP c.fDirs + aH c.fResults := rfl
 unfold qQ sG
 cases e : qP c f
 ·simp only [Bool.false_eq_true, if_false]
  exact ⟨by omega, by omega, by omega, by simp [fV, wsum]⟩
 ·simp only [if_true]
  unfold qP at e
  rw [Bool.and_eq_true] at e
  have hr := b6Z e.1
  have hw := b0S c.fStore f
  have hx := b4w (nA c.fStore f) c.fDirs c.fResults (dirNs c.fDirs) hr
  have hd := b1y c.fResults (a9z c f) hr hx
  unfold a9z at hd ⊢
  exact ⟨by omega, by omega, by omega, by omega⟩
end Go.Proofs.YtddimbdeggomaaaGreat
end
section
set_option maxRecDepth 100000
set_option maxHeartbeats 4000000
namespace Go.Proofs.YtddimbdeggomaaaGreat
open Go Go.Sx Go.RowKit Go.Proofs
theorem b1i (id : Int) (x : TFile) : FnC Tryz.prog 257 [dC x, .o (.q [iv id])] (ob (decide (x.fID = id))) := by
 refine ent Tryz.func257 rfl Tryz.call257 rfl (fun C => ?_); simp only [go_sem, st0, Tryz.ntmps257]
 refine aD ?_
 exact aA ⟨⟨_, rfl, by simp only [go_sem]⟩, trivial⟩
theorem zB (s : TStore) (id : Int) (hl : s.fFiles.length ≤ 4300000) : FnC Tryz.prog 190 [dJ s, oi id] (oi (ixF id s.fFiles)) := by
 refine ent Tryz.func190 rfl Tryz.call190 rfl (fun C => ?_); simp only [go_sem, st0, Tryz.ntmps190]
 refine gP (a1W _ _ (fun x => decide (x.fID = id)) s.fFiles (fun y _ => b1i id y) (by omega)) ?_
 exact aA ⟨⟨_, rfl, by simp only [go_sem, ixF]⟩, trivial⟩
theorem rJ (s : TStore) (id : Int) (hl : s.fFiles.length ≤ 4300000) : FnC Tryz.prog 189 [dJ s, oi id] (oi (ixF id s.fFiles)) := by
 refine ent Tryz.func189 rfl Tryz.call189 rfl (fun C => ?_); simp only [go_sem, st0, Tryz.ntmps189]
 refine aD ?_
 refine aN (α := Nat) (fun k => [(5, oi k)]) (fun _ => []) (fun k => k ≤ s.fFiles.length ∧ ixF id s.fFiles = dV (fun f => decide (f.fID = id)) (s.fFiles.drop k) k) (fun k => s.fFiles.length - k) 0 (fun _ => ?_) ?_ ?_ (fun k hk => ?_)
 ·simp only [go_sem]
 ·simp only [go_sem]; simp
 ·simp [ixF]
 ·obtain ⟨hk, hq⟩ := hk
  simp only [go_sem]
  refine aD ?_
  refine cnd rfl (fun h => ?_) (fun h => ?_)
  ·simp only [decide_eq_true_eq, Int.ofNat_lt] at h
   have hd := List.drop_eq_getElem_cons h
   rw [hd, dV] at hq
   by_cases h2 : s.fFiles[k].fID = id
   ·rw [if_pos (by simp [h2])] at hq
    have q0 := @h; have q1 := @h2; have q2 := @decide_true; refine mG ?_
    exact aA ⟨⟨_, rfl, by simp only [go_sem, hq]⟩, trivial⟩
   ·rw [if_neg (by simp [h2])] at hq
    have q0 := @h; have q1 := @h2; have q2 := @decide_false; refine mG ?_
    refine aF (k + 1) ?_ ?_ ?_
    ·simp only [go_sem]; simp
    ·rw [hq]; exact ⟨h, by simp⟩
    ·omega
  ·simp only [decide_eq_false_iff_not] at h
   have e : k = s.fFiles.length := by omega
   subst e
   simp only [List.drop_length, dV] at hq
   refine aD ?_
   exact aA ⟨⟨_, rfl, by simp only [go_sem, hq]⟩, trivial⟩
theorem a9A (s : TStore) (id : Int) (h : aL s ≤ 4300000) : FnC Tryz.prog 125 [dJ s, oi id] (.t [(true, (a8H (iT id s.fFiles)).cells), (false, [.d (bv (decide (0 ≤ ixF id s.fFiles)))])]) := by
 have hl : s.fFiles.length ≤ 4300000 := by unfold aL bU at h; omega
 refine ent Tryz.func125 rfl Tryz.call125 rfl (fun C => ?_); simp only [go_sem, st0, Tryz.ntmps125]
 rcases ixF_cases id s.fFiles with e | ⟨p, e, hp, _⟩
 ·have e1 := a4R e
  have hz : ¬ (0 : Int) ≤ -1 := by omega
  have hk := zB s id hl
  rw [e] at hk
  have q0 := @hz; have q1 := @decide_false; refine nO hk ?_
  exact aA ⟨⟨_, rfl, by simp only [go_sem, e, e1, hz, decide_false, zF, List.map_nil]; try simp⟩, by simp [aK]⟩
 ·have e1 := a2g e hp
  have hz : (0 : Int) ≤ (p : Int) := by omega
  have hw := bC wFile s.fFiles hp
  have hx : s.fFiles[p].fAttrs.length ≤ 4300000 := by
   have e : s.fFiles[p].fAttrs.length ≤ wFile s.fFiles[p] := by unfold wFile eB; omega
   unfold aL bU at h; omega
  have hk := zB s id hl
  rw [e] at hk
  have q0 := @hz; have q1 := @hp; have q2 := @decide_true; have q3 := @Int.toNat_natCast; refine a0f hk (mV s.fFiles[p] hx) ?_
  exact aA ⟨⟨_, rfl, by simp only [go_sem, e, e1, hz, decide_true]; try simp⟩, by simp [aK]⟩
theorem a9B (s : TStore) (id : Int) (h : aL s ≤ 4300000) : FnC Tryz.prog 123 [dJ s, oi id] (.t [(true, (a8H (iT id s.fFiles)).cells), (false, [.d (bv (decide (0 ≤ ixF id s.fFiles)))])]) := by
 have hl : s.fFiles.length ≤ 4300000 := by unfold aL bU at h; omega
 refine ent Tryz.func123 rfl Tryz.call123 rfl (fun C => ?_); simp only [go_sem, st0, Tryz.ntmps123]
 rcases ixF_cases id s.fFiles with e | ⟨p, e, hp, _⟩
 ·have e1 := a4R e
  have hz : ¬ (0 : Int) ≤ -1 := by omega
  have hy : (-1 : Int) < 0 := by omega
  have hk := rJ s id hl
  rw [e] at hk
  have q0 := @hy; have q1 := @decide_true; refine nO hk ?_
  exact aA ⟨⟨_, rfl, by simp only [go_sem, e, e1, hz, decide_false, zF, List.map_nil]; try simp⟩, by simp [aK]⟩
 ·have e1 := a2g e hp
  have hz : (0 : Int) ≤ (p : Int) := by omega
  have hy : ¬ (p : Int) < 0 := by omega
  have hw := bC wFile s.fFiles hp
  have hx : s.fFiles[p].fAttrs.length ≤ 4300000 := by
   have e : s.fFiles[p].fAttrs.length ≤ wFile s.fFiles[p] := by unfold wFile eB; omega
   unfold aL bU at h; omega
  have hk := rJ s id hl
  rw [e] at hk
  have q0 := @hy; have q1 := @hp; have q2 := @decide_false; have q3 := @Int.toNat_natCast; refine a0f hk (qF s.fFiles[p] hx) ?_
  exact aA ⟨⟨_, rfl, by simp only [go_sem, e, e1, hz, decide_true]; try simp⟩, by simp [aK]⟩
theorem qR (s : TStore) (f : TFile) (hs : aL s ≤ 4300000) (hf : wFile f ≤ 4300000) : FnC Tryz.prog 130 [dJ s, dC f] (.t [(true, (xL (uJ s f)).cells), (false, [.d (bv (jE s f))])]) := by
 have h1 : aQ s.fSchema ≤ 4300000 := by unfold aL at hs; omega
 have h2 : s.fFiles.length ≤ 4300000 := by unfold aL bU at hs; omega
 have h3 : f.fAttrs.length ≤ 4300000 := by unfold wFile eB at hf; omega
 have hk := zB s f.fID h2
 refine ent Tryz.func130 rfl Tryz.call130 rfl (fun C => ?_); simp only [go_sem, st0, Tryz.ntmps130]
 cases hv : bS s
 ·have e : jE s f = false := by simp [jE, hv]
  have q0 := @hv; refine a1N (fK s hs) hk (eF s hs) ?_
  exact aA ⟨⟨_, rfl, by simp only [go_sem, uJ, e]; try simp⟩, by simp [aK]⟩
 rcases ixF_cases f.fID s.fFiles with ei | ⟨p, ei, hp, _⟩
 ·have e : jE s f = false := by simp [jE, ei]
  have hy : (-1 : Int) < 0 := by omega
  rw [ei] at hk
  have q0 := @hv; have q1 := @hy; have q2 := @decide_true; refine a8z (fK s hs) hk (eF s hs) ?_
  exact aA ⟨⟨_, rfl, by simp only [go_sem, uJ, e]; try simp⟩, by simp [aK]⟩
 have hy : ¬ (p : Int) < 0 := by omega
 rw [ei] at hk
 cases ho : eP s.fSchema f
 ·have e : jE s f = false := by simp [jE, ho]
  have q0 := @hv; have q1 := @hy; have q2 := @ho; have q3 := @decide_false; refine b7J (fK s hs) hk (eF s hs) (gN s.fSchema f h1 hf) ?_
  exact aA ⟨⟨_, rfl, by simp only [go_sem, uJ, e]; try simp⟩, by simp [aK]⟩
 ·have e : jE s f = true := by simp [jE, hv, ei, ho]
  have qH := aI @hv (aI @hy (aI @ho (aI @hp (aI @decide_false (aI @Int.toNat_natCast @a6W))))); repeat' (with_reducible first | refine nY ?_ | (refine mX ?_; try simp only [go_sem, qH]) | refine kD ?_ | (apply rE [4,6] [] [0,1,2,3] [0,1,2,3] ((.c 4 [5] [0,1,2,5] (.c 6 [] [] .n .n) .n)) (by simp only [go_sem]; rfl) (by simp only [go_sem]; rfl) (by simp only [go_sem]; rfl) (by decide +kernel); (focus simp only [go_sem]; done)) | exact dN | refine cB (uX ?_) ?_ | refine cK (aX ?_) ?_ | refine cO (aX ?_) ?_ | exact bZ | exact oH | exact uB | refine rD ?_ | refine cP (fK s hs) ?_ | refine cP hk ?_ | refine cP (eF s hs) ?_ | refine cP (gN s.fSchema f h1 hf) ?_ | refine cP (mV f h3) ?_ | refine aO ?_ | fail)
  exact aA ⟨⟨_, rfl, by simp only [go_sem, uJ, e, ei, Int.toNat_natCast, if_true, List.map_set]; try simp [bB]⟩, by simp [aK]⟩
theorem a5g (s : TStore) (f : TFile) (hs : aL s ≤ 4300000) (hf : wFile f ≤ 4300000) : FnC Tryz.prog 128 [dJ s, dC f] (.t [(true, (xL (uJ s f)).cells), (false, [.d (bv (jE s f))])]) := by
 have h1 : aQ s.fSchema ≤ 4300000 := by unfold aL at hs; omega
 have h2 : s.fFiles.length ≤ 4300000 := by unfold aL bU at hs; omega
 have h3 : f.fAttrs.length ≤ 4300000 := by unfold wFile eB at hf; omega
 have hk := rJ s f.fID h2
 refine ent Tryz.func128 rfl Tryz.call128 rfl (fun C => ?_); simp only [go_sem, st0, Tryz.ntmps128]
 cases hv : bS s
 ·have e : jE s f = false := by simp [jE, hv]
  have qH := @hv; repeat' (with_reducible first | refine nY ?_ | (refine mX ?_; try simp only [go_sem, qH]) | refine kD ?_ | refine rD ?_ | refine cP (kR s hs) ?_ | refine vR hk ?_ | refine vD hk ?_ | refine vR (bJ s hs) ?_ | refine vD (bJ s hs) ?_ | refine aO ?_ | fail)
  exact aA ⟨⟨_, rfl, by simp only [go_sem, uJ, e]; try simp⟩, by simp [aK]⟩
 rcases ixF_cases f.fID s.fFiles with ei | ⟨p, ei, hp, _⟩
 ·have e : jE s f = false := by simp [jE, ei]
  have hy : (-1 : Int) < 0 := by omega
  rw [ei] at hk
  have qH := aI @hv (aI @hy @decide_true); repeat' (with_reducible first | refine nY ?_ | (refine mX ?_; try simp only [go_sem, qH]) | refine kD ?_ | refine rD ?_ | refine cP (kR s hs) ?_ | refine vR hk ?_ | refine vD hk ?_ | refine vR (bJ s hs) ?_ | refine vD (bJ s hs) ?_ | refine aO ?_ | fail)
  exact aA ⟨⟨_, rfl, by simp only [go_sem, uJ, e]; try simp⟩, by simp [aK]⟩
 have hy : ¬ (p : Int) < 0 := by omega
 rw [ei] at hk
 cases ho : eP s.fSchema f
 ·have e : jE s f = false := by simp [jE, ho]
  have qH := aI @hv (aI @hy (aI @ho @decide_false)); repeat' (with_reducible first | refine nY ?_ | (refine mX ?_; try simp only [go_sem, qH]) | refine kD ?_ | refine rD ?_ | refine cP (kR s hs) ?_ | refine vR hk ?_ | refine vD hk ?_ | refine vR (bJ s hs) ?_ | refine vD (bJ s hs) ?_ | refine vR (fG s.fSchema f h1 hf) ?_ | refine vD (fG s.fSchema f h1 hf) ?_ | refine aO ?_ | fail)
  exact aA ⟨⟨_, rfl, by simp only [go_sem, uJ, e]; try simp⟩, by simp [aK]⟩
 ·have e : jE s f = true := by simp [jE, hv, ei, ho]
  have qH := aI @hv (aI @hy (aI @ho (aI @hp (aI @decide_false (aI @Int.toNat_natCast @a6W))))); repeat' (with_reducible first | refine nY ?_ | (refine mX ?_; try simp only [go_sem, qH]) | refine kD ?_ | (apply rE [4,6] [] [0,1,2,3] [0,1,2,3] ((.c 4 [5] [0,1,2,5] (.c 6 [] [] .n .n) .n)) (by simp only [go_sem]; rfl) (by simp only [go_sem]; rfl) (by simp only [go_sem]; rfl) (by decide +kernel); (focus simp only [go_sem]; done)) | exact dN | refine cB (uX ?_) ?_ | refine cK (aX ?_) ?_ | refine cO (aX ?_) ?_ | exact bZ | exact oH | exact uB | refine rD ?_ | refine cP (kR s hs) ?_ | refine vR hk ?_ | refine vG hk ?_ | refine vR (bJ s hs) ?_ | refine vG (bJ s hs) ?_ | refine vR (fG s.fSchema f h1 hf) ?_ | refine vG (fG s.fSchema f h1 hf) ?_ | refine cP (qF f h3) ?_ | refine aO ?_ | fail)
  exact aA ⟨⟨_, rfl, by simp only [go_sem, uJ, e, ei, Int.toNat_natCast, if_true, List.map_set]; try simp [bB]⟩, by simp [aK]⟩
end Go.Proofs.YtddimbdeggomaaaGreat
end
section
set_option maxRecDepth 100000
set_option maxHeartbeats 4000000
namespace Go.Proofs.YtddimbdeggomaaaGreat
open Go Go.Sx Go.RowKit Go.Proofs
theorem sI (s : TStore) (id : Int) (hs : aL s ≤ 4300000) : FnC Tryz.prog 121 [dJ s, oi id] (.t [(true, (xL (yH s id)).cells), (false, [.d (bv (lK s id))])]) := by
 have h2 : s.fFiles.length ≤ 4300000 := by unfold aL bU at hs; omega
 have hk := zB s id h2
 refine ent Tryz.func121 rfl Tryz.call121 rfl (fun C => ?_); simp only [go_sem, st0, Tryz.ntmps121]
 cases hv : bS s
 ·have e : lK s id = false := by simp [lK, hv]
  have q0 := @hv; refine a1N (fK s hs) hk (eF s hs) ?_
  exact aA ⟨⟨_, rfl, by simp only [go_sem, yH, e]; try simp⟩, by simp [aK]⟩
 rcases ixF_cases id s.fFiles with ei | ⟨p, ei, hp, _⟩
 ·have e : lK s id = false := by simp [lK, ei]
  have hy : (-1 : Int) < 0 := by omega
  rw [ei] at hk
  have q0 := @hv; have q1 := @hy; have q2 := @decide_true; refine a8z (fK s hs) hk (eF s hs) ?_
  exact aA ⟨⟨_, rfl, by simp only [go_sem, yH, e]; try simp⟩, by simp [aK]⟩
 ·have hy : ¬ (p : Int) < 0 := by omega
  rw [ei] at hk
  have e : lK s id = true := by simp [lK, hv, ei]
  have hp' : p < (s.fFiles.map bB).length := by simpa using hp
  have qH := aI @hv (aI @hy (aI @hp (aI @decide_false (aI @Int.toNat_natCast @a6W)))); repeat' (with_reducible first | refine nY ?_ | (refine mX ?_; try simp only [go_sem, qH]) | refine kD ?_ | refine rD ?_ | refine cP (fK s hs) ?_ | refine cP hk ?_ | refine cP (eF s hs) ?_ | refine vI (a2J s.fFiles p hp (by omega)) ?_ | refine vJ (a2J s.fFiles p hp (by omega)) ?_ | refine aO ?_ | fail)
  exact aA ⟨⟨_, rfl, by simp only [go_sem, yH, e, ei, Int.toNat_natCast, if_true]; try simp⟩, by simp [aK]⟩
theorem b2g (l : List TFile) : ∀ r ∈ l.map bB, r.length = 5 := by intro r hr; obtain ⟨x, _, rfl⟩ := List.mem_map.1 hr; rfl
theorem sJ (s : TStore) (id : Int) (hs : aL s ≤ 4300000) : FnC Tryz.prog 120 [dJ s, oi id] (.t [(true, (dJ (yH s id)).cells), (false, [.d (bv (lK s id))])]) := by
 have h2 : s.fFiles.length ≤ 4300000 := by unfold aL bU at hs; omega
 have hk := rJ s id h2
 have hcp : FnC Tryz.prog 100 [dJ s] (dJ s) := (kR s hs).pu (by simp only [go_sem, and_self])
 refine ent Tryz.func120 rfl Tryz.call120 rfl (fun C => ?_); simp only [go_sem, st0, Tryz.ntmps120]
 cases hv : bS s
 ·have e : lK s id = false := by simp [lK, hv]
  have q0 := @hv; refine a1N hcp hk (bJ s hs) ?_
  exact aA ⟨⟨_, rfl, by simp only [go_sem, yH, e]; try simp⟩, by simp [aK]⟩
 rcases ixF_cases id s.fFiles with ei | ⟨p, ei, hp, _⟩
 ·have e : lK s id = false := by simp [lK, ei]
  have hy : (-1 : Int) < 0 := by omega
  rw [ei] at hk
  have q0 := @hv; have q1 := @hy; have q2 := @decide_true; refine a8z hcp hk (bJ s hs) ?_
  exact aA ⟨⟨_, rfl, by simp only [go_sem, yH, e]; try simp⟩, by simp [aK]⟩
 ·have hy : ¬ (p : Int) < 0 := by omega
  rw [ei] at hk
  have e : lK s id = true := by simp [lK, hv, ei]
  have hpn : ((p : Int) + 1).toNat = p + 1 := by omega
  have hT : List.take s.fFiles.length (List.map bB s.fFiles) = List.map bB s.fFiles := List.take_of_length_le (by simp)
  have hTk : List.take p (List.map bB s.fFiles) = (s.fFiles.take p).map bB := List.map_take.symm
  have hDp : List.drop (p + 1) (List.map bB s.fFiles) = (s.fFiles.drop (p + 1)).map bB := List.map_drop.symm
  have qH := aI @hv (aI @hy (aI @hp (aI @hpn (aI @hT (aI @hTk (aI @hDp (aI @a3N (aI @a3O (aI @a3P (aI @decide_false (aI @Int.toNat_natCast @a6W))))))))))); repeat' (with_reducible first | refine nY ?_ | (refine mX ?_; try simp only [go_sem, qH]) | refine kD ?_ | (apply rE [0,5,11,13] [] [1,2,3,4,6,7,8,9,10] [1,2,3,4,6,7,8,9,10] ((.c 0 [] [1,2,3,4,6,7,8,9,10] (.c 5 [] [6,7,8,9,10] (.c 11 [12] [12] (.c 13 [] [] .n .n) .n) .n) .n)) (by simp only [go_sem]; rfl) (by simp only [go_sem]; rfl) (by simp only [go_sem]; rfl) (by decide +kernel); (focus simp only [go_sem]; done)) | exact dN | refine cB (uX ?_) ?_ | refine cK (aX ?_) ?_ | refine cO (aX ?_) ?_ | exact bZ | exact oH | (refine uA ?_; simp only [go_sem, qH]; (repeat' first | omega | exact b2g _ | refine And.intro ?_ ?_); done) | refine rD ?_ | refine And.intro (b2g _) ?_ | refine cP hcp ?_ | refine cP hk ?_ | refine cP (bJ s hs) ?_ | refine aO ?_ | fail)
  first | refine aC (Sees.frz 4 rfl) ?_ | refine aC (Sees.frz 3 rfl) ?_ | refine aC (Sees.frz 2 rfl) ?_
  simp only [go_sem]
  exact aA ⟨⟨_, rfl, by simp only [go_sem, yH, e, ei, Int.toNat_natCast, if_true, fH, List.map_append]; try simp⟩, by simp [aK]⟩
noncomputable def sK (c : TCatalog) (id : Int) : Bool := lM c && lK c.fStore id
noncomputable def zI (c : TCatalog) (id : Int) : TCatalog := goC (sK c id) c (yH c.fStore id) c.fDirs (dirNs c.fDirs)
noncomputable def a1G (c : TCatalog) (id : Int) : List TDiff := goD (sK c id) c (yH c.fStore id) c.fDirs (dirNs c.fDirs)
theorem a5z (c : TCatalog) (id : Int) (h : wCatalog c ≤ 4300000) : FnC Tryz.prog 50 [bH c, oi id] (.t [(true, (kQ (zI c id)).cells), (false, [.w 158 3 ((a1G c id).map dG)]), (false, [.d (bv (sK c id))])]) := by
 have hc : wCatalog c = aL c.fStore + aP c.fDirs + aH c.fResults := rfl
 have hw := b0Q c.fStore id
 have hl : c.fDirs.length ≤ 4300000 := by unfold aP at hc; omega
 have hn : (dirNs c.fDirs).length ≤ 4300000 := by rw [lH]; exact hl
 refine ent Tryz.func50 rfl Tryz.call50 rfl (fun C => ?_); simp only [go_sem, st0, Tryz.ntmps50]
 cases h2 : lK c.fStore id
 ·have e : sK c id = false := by simp [sK, h2]
  have q0 := @h2; refine a1N (sI c.fStore id (by omega)) (bN c (by omega)) (fB c (by omega)) ?_
  exact aA ⟨⟨_, rfl, by simp only [go_sem, zI, a1G, e, iM, iN, List.map_nil]; try simp⟩, by simp [aK]⟩
 cases h1 : lM c
 ·have e : sK c id = false := by simp [sK, h1]
  have q0 := @h1; have q1 := @h2; refine a8y (sI c.fStore id (by omega)) (bN c (by omega)) (fB c (by omega)) ?_
  exact aA ⟨⟨_, rfl, by simp only [go_sem, zI, a1G, e, iM, iN, List.map_nil]; try simp⟩, by simp [aK]⟩
 ·have e : sK c id = true := by simp [sK, h1, h2]
  have hev : evB (yH c.fStore id) c.fDirs = true := by unfold evB; rw [b4v h1, b7Z h2]; rfl
  have hk := a3g c (yH c.fStore id) c.fDirs (dirNs c.fDirs) hev (by omega) (by omega) (by omega) hn
  have qH := aI @h1 @h2; repeat' (with_reducible first | refine nY ?_ | (refine mX ?_; try simp only [go_sem, qH]) | refine kD ?_ | (apply rE [6,7,11] [] [0,1,2,3,4,5] [0,1,2,3,4,5] ((.c 6 [] [0,1,2,3] (.c 7 [8,9,10] [8,9,10] (.c 11 [12,13] [12,13] .n .n) .n) .n)) (by simp only [go_sem]; rfl) (by simp only [go_sem]; rfl) (by simp only [go_sem]; rfl) (by decide +kernel); (focus simp only [go_sem]; done)) | exact dN | refine cB (uX ?_) ?_ | refine cK (aX ?_) ?_ | refine cO (aX ?_) ?_ | exact bZ | exact oH | exact uB | refine rD ?_ | refine cP (sI c.fStore id (by omega)) ?_ | refine cP (bN c (by omega)) ?_ | refine cP (a0P c.fDirs hl) ?_ | refine cP hk ?_ | refine aO ?_ | fail)
  exact aA ⟨⟨_, rfl, by simp only [go_sem, zI, a1G, e]; try simp⟩, by simp [aK]⟩
theorem a5A (c : TCatalog) (id : Int) (h : wCatalog c ≤ 4300000) : FnC Tryz.prog 49 [bH c, oi id] (.t [(true, (bH (zI c id)).cells), (false, [.d (.sl ((a1G c id).map dG))]), (false, [.d (bv (sK c id))])]) := by
 have hc : wCatalog c = aL c.fStore + aP c.fDirs + aH c.fResults := rfl
 have hw := b0Q c.fStore id
 have hl : c.fDirs.length ≤ 4300000 := by unfold aP at hc; omega
 have hn : (dirNs c.fDirs).length ≤ 4300000 := by rw [lH]; exact hl
 refine ent Tryz.func49 rfl Tryz.call49 rfl (fun C => ?_); simp only [go_sem, st0, Tryz.ntmps49]
 cases h1 : lM c
 ·have e : sK c id = false := by simp [sK, h1]
  have q0 := @h1; refine a1N (bO c (by omega)) (sJ c.fStore id (by omega)) (bF c (by omega)) ?_
  first | refine aC (Sees.frz 1 rfl) ?_ | refine aC (Sees.frz 2 rfl) ?_ | refine aC (Sees.frz 3 rfl) ?_ | refine aC (Sees.frz 4 rfl) ?_ | refine aC (Sees.frz 5 rfl) ?_
  simp only [go_sem]
  exact aA ⟨⟨_, rfl, by simp only [go_sem, zI, a1G, e, iM, iN, List.map_nil]; try simp⟩, by simp [aK]⟩
 cases h2 : lK c.fStore id
 ·have e : sK c id = false := by simp [sK, h2]
  have q0 := @h1; have q1 := @h2; refine a8y (bO c (by omega)) (sJ c.fStore id (by omega)) (bF c (by omega)) ?_
  first | refine aC (Sees.frz 1 rfl) ?_ | refine aC (Sees.frz 2 rfl) ?_ | refine aC (Sees.frz 3 rfl) ?_ | refine aC (Sees.frz 4 rfl) ?_ | refine aC (Sees.frz 5 rfl) ?_
  simp only [go_sem]
  exact aA ⟨⟨_, rfl, by simp only [go_sem, zI, a1G, e, iM, iN, List.map_nil]; try simp⟩, by simp [aK]⟩
 ·have e : sK c id = true := by simp [sK, h1, h2]
  have qH := aI @h1 @h2; repeat' (with_reducible first | refine nY ?_ | (refine mX ?_; try simp only [go_sem, qH]) | refine kD ?_ | (apply rE [6,7,11,12] [] [0,1,2,3,4,5] [0,1,2,3,4,5] ((.c 6 [] [0,1,2,3] (.c 7 [8,9,10] [8,9,10] (.c 11 [] [8,9,10] (.c 12 [13] [10,13] .n .n) .n) (.c 11 [] [0,1,2,3] (.c 7 [8,9,10] [8,9,10] (.c 12 [13] [10,13] .n .n) .n) .n)) (.c 11 [] [0,1,2,3,4,5] (.c 6 [] [0,1,2,3] (.c 7 [8,9,10] [8,9,10] (.c 12 [13] [10,13] .n .n) .n) .n) .n))) (by simp only [go_sem]; rfl) (by simp only [go_sem]; rfl) (by simp only [go_sem]; rfl) (by decide +kernel); (focus simp only [go_sem]; done)) | exact dN | refine cB (uX ?_) ?_ | refine cK (aX ?_) ?_ | refine cO (aX ?_) ?_ | exact bZ | exact oH | exact uB | refine rD ?_ | refine cP (bO c (by omega)) ?_ | refine cP (sJ c.fStore id (by omega)) ?_ | refine cP (bF c (by omega)) ?_ | refine cP (tJ c.fDirs hl) ?_ | refine cP (lV c (yH c.fStore id) c.fDirs (dirNs c.fDirs) (by omega) (by omega) (by omega) hn) ?_ | refine aO ?_ | fail)
  exact aA ⟨⟨_, rfl, by simp only [go_sem, zI, a1G, e, a0Q, a0R]; try simp⟩, by simp [aK]⟩
theorem b9j (c : TCatalog) (id : Int) (h : wCatalog c ≤ 4300000) : aL (zI c id).fStore ≤ 8600000 ∧ aP (zI c id).fDirs ≤ 8600000 ∧ aH (zI c id).fResults ≤ 8600000 ∧ fV (a1G c id) ≤ 8600000 := by
 have hc : wCatalog c = aL c.fStore + aP c.fDirs + aH c.fResults := rfl
 have hw := b0Q c.fStore id
 exact b6j _ c _ _ _ (fun e => by unfold sK at e; rw [Bool.and_eq_true] at e; exact e.1) (by omega) (by omega) h
end Go.Proofs.YtddimbdeggomaaaGreat
end
section
set_option maxRecDepth 100000
set_option maxHeartbeats 4000000
namespace Go.Proofs.YtddimbdeggomaaaGreat
open Go Go.Sx Go.RowKit Go.Proofs
theorem a9C (l : List TDir) (a b : TFile) (h : aP l + (wFile a + wFile b) ≤ 4300000) : FnC Tryz.prog 131 [.o (.d (.sl (l.map aM))), dC a, dC b] (.o (.d (.sl ((a7H a b l).map bW)))) := (b0V l a b h).pu (by simp only [go_sem, and_self])
theorem a9D (l : List TDir) (a b : TFile) (h : aP l + (wFile a + wFile b) ≤ 4300000) : FnC Tryz.prog 129 [.o (.d (.sl (l.map aM))), dC a, dC b] (.o (.d (.sl ((a7H a b l).map bW)))) := (b0W l a b h).pu (by simp only [go_sem, and_self])
theorem a9E (a b : TFile) (l : List TDir) : (a7H a b l).length ≤ aP l := by have := b8e a b l; unfold pQ at this; omega
theorem oI (s : TStore) (f : TFile) (hs : aL s ≤ 4300000) (hf : wFile f ≤ 4300000) : FnC Tryz.prog 128 [dJ s, dC f] (.t [(true, (dJ (uJ s f)).cells), (false, [.d (bv (jE s f))])]) := (a5g s f hs hf).pu (by simp only [go_sem, and_self])
theorem fF (s : TStore) (id : Int) (h : aL s ≤ 4300000) : FnC Tryz.prog 123 [dJ s, oi id] (.t [(true, (dC (iT id s.fFiles)).cells), (false, [.d (bv (decide (0 ≤ ixF id s.fFiles)))])]) := (a9B s id h).pu (by simp only [go_sem, and_self])
theorem iL (s : TStore) (id : Int) (h : aL s ≤ 4300000) : FnC Tryz.prog 125 [dJ s, oi id] (.t [(true, (dC (iT id s.fFiles)).cells), (false, [.d (bv (decide (0 ≤ ixF id s.fFiles)))])]) := (a9A s id h).pu (by simp only [go_sem, and_self])
noncomputable def sM (c : TCatalog) (f : TFile) : Bool := lM c && jE c.fStore f
def a2W (c : TCatalog) (f : TFile) : List ByteArray := a7H (iT f.fID c.fStore.fFiles) f c.fDirs
noncomputable def zJ (c : TCatalog) (f : TFile) : TCatalog := goC (sM c f) c (uJ c.fStore f) c.fDirs (a2W c f)
noncomputable def a1H (c : TCatalog) (f : TFile) : List TDiff := goD (sM c f) c (uJ c.fStore f) c.fDirs (a2W c f)
theorem a5B (c : TCatalog) (f : TFile) (h : wCatalog c + wFile f ≤ 4300000) : FnC Tryz.prog 54 [bH c, dC f] (.t [(true, (kQ (zJ c f)).cells), (false, [.w 158 3 ((a1H c f).map dG)]), (false, [.d (bv (sM c f))])]) := by
 have hc : wCatalog c = aL c.fStore + aP c.fDirs + aH c.fResults := rfl
 have hs : aL c.fStore = aQ c.fStore.fSchema + bU c.fStore.fFiles := rfl
 have hw := b0R c.fStore f
 have hn : (a2W c f).length ≤ 4300000 := by have := a9E (iT f.fID c.fStore.fFiles) f c.fDirs; unfold a2W; omega
 have hfw := b1Y f.fID c.fStore.fFiles
 refine ent Tryz.func54 rfl Tryz.call54 rfl (fun C => ?_); simp only [go_sem, st0, Tryz.ntmps54]
 cases h2 : jE c.fStore f
 ·have e : sM c f = false := by simp [sM, h2]
  have q0 := @h2; refine a1N (qR c.fStore f (by omega) (by omega)) (bN c (by omega)) (fB c (by omega)) ?_
  exact aA ⟨⟨_, rfl, by simp only [go_sem, zJ, a1H, e, iM, iN, List.map_nil]; try simp⟩, by simp [aK]⟩
 cases h1 : lM c
 ·have e : sM c f = false := by simp [sM, h1]
  have q0 := @h1; have q1 := @h2; refine a8y (qR c.fStore f (by omega) (by omega)) (bN c (by omega)) (fB c (by omega)) ?_
  exact aA ⟨⟨_, rfl, by simp only [go_sem, zJ, a1H, e, iM, iN, List.map_nil]; try simp⟩, by simp [aK]⟩
 ·have e : sM c f = true := by simp [sM, h1, h2]
  have hev : evB (uJ c.fStore f) c.fDirs = true := by unfold evB; rw [b4v h1, b8a h2]; rfl
  have hk := a3g c (uJ c.fStore f) c.fDirs (a2W c f) hev (by omega) (by omega) (by omega) hn
  have ha := a9C c.fDirs (iT f.fID c.fStore.fFiles) f (by omega)
  unfold a2W at hk
  have qH := aI @h1 @h2; repeat' (with_reducible first | refine nY ?_ | (refine mX ?_; try simp only [go_sem, qH]) | refine kD ?_ | (apply rE [8,9,13] [] [0,1,2,3,4,5,6,7] [0,1,2,3,4,5,6,7] ((.c 8 [] [0,1,2,3] (.c 9 [10,11,12] [10,11,12] (.c 13 [14,15] [14,15] .n .n) .n) .n)) (by simp only [go_sem]; rfl) (by simp only [go_sem]; rfl) (by simp only [go_sem]; rfl) (by decide +kernel); (focus simp only [go_sem]; done)) | exact dN | refine cB (uX ?_) ?_ | refine cK (aX ?_) ?_ | refine cO (aX ?_) ?_ | exact bZ | exact oH | exact uB | refine rD ?_ | refine cP (qR c.fStore f (by omega) (by omega)) ?_ | refine cP (bN c (by omega)) ?_ | refine cP (iL c.fStore f.fID (by omega)) ?_ | refine cP ha ?_ | refine cP hk ?_ | refine aO ?_ | fail)
  exact aA ⟨⟨_, rfl, by simp only [go_sem, zJ, a1H, a2W, e]; try simp⟩, by simp [aK]⟩
theorem a5C (c : TCatalog) (f : TFile) (h : wCatalog c + wFile f ≤ 4300000) : FnC Tryz.prog 53 [bH c, dC f] (.t [(true, (bH (zJ c f)).cells), (false, [.d (.sl ((a1H c f).map dG))]), (false, [.d (bv (sM c f))])]) := by
 have hc : wCatalog c = aL c.fStore + aP c.fDirs + aH c.fResults := rfl
 have hs : aL c.fStore = aQ c.fStore.fSchema + bU c.fStore.fFiles := rfl
 have hw := b0R c.fStore f
 have hn : (a2W c f).length ≤ 4300000 := by have := a9E (iT f.fID c.fStore.fFiles) f c.fDirs; unfold a2W; omega
 have hfw := b1Y f.fID c.fStore.fFiles
 refine ent Tryz.func53 rfl Tryz.call53 rfl (fun C => ?_); simp only [go_sem, st0, Tryz.ntmps53]
 cases h1 : lM c
 ·have e : sM c f = false := by simp [sM, h1]
  have q0 := @h1; refine b7I (bO c (by omega)) (fF c.fStore f.fID (by omega)) (oI c.fStore f (by omega) (by omega)) (bF c (by omega)) ?_
  first | refine aC (Sees.frz 1 rfl) ?_ | refine aC (Sees.frz 2 rfl) ?_ | refine aC (Sees.frz 3 rfl) ?_ | refine aC (Sees.frz 4 rfl) ?_ | refine aC (Sees.frz 5 rfl) ?_
  simp only [go_sem]
  exact aA ⟨⟨_, rfl, by simp only [go_sem, zJ, a1H, e, iM, iN, List.map_nil]; try simp⟩, by simp [aK]⟩
 cases h2 : jE c.fStore f
 ·have e : sM c f = false := by simp [sM, h2]
  have q0 := @h1; have q1 := @h2; refine b4r (bO c (by omega)) (fF c.fStore f.fID (by omega)) (oI c.fStore f (by omega) (by omega)) (bF c (by omega)) ?_
  first | refine aC (Sees.frz 1 rfl) ?_ | refine aC (Sees.frz 2 rfl) ?_ | refine aC (Sees.frz 3 rfl) ?_ | refine aC (Sees.frz 4 rfl) ?_ | refine aC (Sees.frz 5 rfl) ?_
  simp only [go_sem]
  exact aA ⟨⟨_, rfl, by simp only [go_sem, zJ, a1H, e, iM, iN, List.map_nil]; try simp⟩, by simp [aK]⟩
 ·have e : sM c f = true := by simp [sM, h1, h2]
  have ha := a9D c.fDirs (iT f.fID c.fStore.fFiles) f (by omega)
  have hk := lV c (uJ c.fStore f) c.fDirs (a2W c f) (by omega) (by omega) (by omega) hn
  unfold a2W at hk
  have qH := aI @h1 @h2; repeat' (with_reducible first | refine nY ?_ | (refine mX ?_; try simp only [go_sem, qH]) | refine kD ?_ | (apply rE [8,9,13,14] [] [0,1,2,3,4,5,6,7] [0,1,2,3,4,5,6,7] ((.c 8 [] [0,1,2,3] (.c 9 [10,11,12] [10,11,12] (.c 13 [] [10,11,12] (.c 14 [15] [12,15] .n .n) .n) (.c 13 [] [0,1,2,3] (.c 9 [10,11,12] [10,11,12] (.c 14 [15] [12,15] .n .n) .n) .n)) (.c 13 [] [0,1,2,3,4,5,6,7] (.c 8 [] [0,1,2,3] (.c 9 [10,11,12] [10,11,12] (.c 14 [15] [12,15] .n .n) .n) .n) .n))) (by simp only [go_sem]; rfl) (by simp only [go_sem]; rfl) (by simp only [go_sem]; rfl) (by decide +kernel); (focus simp only [go_sem]; done)) | exact dN | refine cB (uX ?_) ?_ | refine cK (aX ?_) ?_ | refine cO (aX ?_) ?_ | exact bZ | exact oH | exact uB | refine rD ?_ | refine cP (bO c (by omega)) ?_ | refine cP (fF c.fStore f.fID (by omega)) ?_ | refine cP (oI c.fStore f (by omega) (by omega)) ?_ | refine cP (bF c (by omega)) ?_ | refine cP ha ?_ | refine cP hk ?_ | refine aO ?_ | fail)
  exact aA ⟨⟨_, rfl, by simp only [go_sem, zJ, a1H, a2W, e, a0Q, a0R]; try simp⟩, by simp [aK]⟩
theorem b9k (c : TCatalog) (f : TFile) (h : wCatalog c + wFile f ≤ 4300000) : aL (zJ c f).fStore ≤ 8600000 ∧ aP (zJ c f).fDirs ≤ 8600000 ∧ aH (zJ c f).fResults ≤ 8600000 ∧ fV (a1H c f) ≤ 8600000 := by
 have hc : wCatalog c = aL c.fStore + aP c.fDirs + aH c.fResults := rfl
 have hw := b0R c.fStore f
 exact b6j _ c _ _ _ (fun e => by unfold sM at e; rw [Bool.and_eq_true] at e; exact e.1) (by omega) (by omega) (by omega)
end Go.Proofs.YtddimbdeggomaaaGreat
end
section
namespace Go.Proofs.YtddimbdeggomaaaGreat
open Go Go.Sx Go.RowKit Go.Proofs Go.Lib
end Go.Proofs.YtddimbdeggomaaaGreat
end
section
set_option maxRecDepth 100000
namespace Go.Proofs.YtddimbdeggomaaaGreat
open Go Go.Sx Go.RowKit Go.Proofs
end Go.Proofs.YtddimbdeggomaaaGreat
end
section
set_option maxRecDepth 100000
set_option maxHeartbeats 4000000
namespace Go.Proofs.YtddimbdeggomaaaGreat
open Go Go.Sx Go.RowKit Go.Proofs
def b8t (s : ByteArray) (y : TAttr) : Bool := !gB y.fName s
def b8u (a : List TAttr) (x : TAttr) : Bool := a.any fun y => decide (y.fName = x.fName) && !a6f y.fValue x.fValue
def b8v (a : List TAttr) (x : TAttr) : Bool := a.any fun y => decide (y.fName = x.fName)
def b1j (a : List TAttr) : List TAttr → List TAttr → Option (List TAttr)
 | l, [] => some l
 | l, x :: b => if b8u a x then none else if b8v a x then b1j a l b else b1j a (insAt (fstIx (b8t x.fName) l) x l) b
def b9V (a b : TEdit) : TEdit := if a.fOK && b.fOK then (match b1j a.fSet a.fSet b.fSet with | none => ⟨false, []⟩ | some l => ⟨true, l⟩) else ⟨false, []⟩
end Go.Proofs.YtddimbdeggomaaaGreat
end
section
namespace Go.Proofs.YtddimbdeggomaaaGreat
open Go Go.Sx Go.RowKit Go.Proofs Go.Lib
end Go.Proofs.YtddimbdeggomaaaGreat
end
section
set_option maxRecDepth 100000
set_option maxHeartbeats 4000000
namespace Go.Proofs.YtddimbdeggomaaaGreat
open Go Go.Sx Go.RowKit Go.Proofs
end Go.Proofs.YtddimbdeggomaaaGreat
end
section
set_option maxRecDepth 100000
set_option maxHeartbeats 4000000
namespace Go.Proofs.YtddimbdeggomaaaGreat
open Go Go.Sx Go.RowKit Go.Proofs
def b8q (s : ByteArray) (y : TAttr) : Bool := decide (y.fName = s)
def b8r (s : ByteArray) (y : TAttr) : Bool := !(gB y.fName s || decide (y.fName = s))
def b8s (s : ByteArray) (l : List TAttr) : List TAttr := l.filter fun y => !b8q s y
def b9l (s : ByteArray) (v : TValue) (l : List TAttr) : List TAttr := if v.fKind = 0 then b8s s l else insAt (fstIx (b8r s) (b8s s l)) ⟨s, v⟩ (b8s s l)
def c0k (f : TFile) (s : ByteArray) (v : TValue) : TFile := { f with fAttrs := b9l s v f.fAttrs }
end Go.Proofs.YtddimbdeggomaaaGreat
end
section
set_option maxRecDepth 100000
set_option maxHeartbeats 4000000
namespace Go.Proofs.YtddimbdeggomaaaGreat
open Go Go.Sx Go.RowKit Go.Proofs
end Go.Proofs.YtddimbdeggomaaaGreat
end
section
set_option maxRecDepth 100000
set_option maxHeartbeats 4000000
namespace Go.Proofs.YtddimbdeggomaaaGreat
open Go Go.Sx Go.RowKit Go.Proofs
def b8p (l : List TAttr) (e : List TAttr) : List TAttr := e.foldl (fun l a => b9l a.fName a.fValue l) l
def b9U (f : TFile) (e : TEdit) : TFile := { f with fAttrs := b8p f.fAttrs e.fSet }
end Go.Proofs.YtddimbdeggomaaaGreat
end
