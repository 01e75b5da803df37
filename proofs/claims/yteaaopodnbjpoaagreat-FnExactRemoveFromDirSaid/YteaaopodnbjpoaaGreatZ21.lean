/- Joined texts. -/
import Derived.Test.YteaaopodnbjpoaaGreatZ20
set_option linter.all false
section
namespace Go.Proofs.YteaaopodnbjpoaaGreat
open Go Go.Sx Go.RowKit Go.Proofs Go.Lib
set_option maxHeartbeats 4000000 in
set_option maxRecDepth 1000000 in
theorem a6o (b c i n : Nat) (F : List Value) (w : World) (hi : i < n) (hn : n ≤ c) (hc63 : c ≤ 9223372036854775807) (hF : F.length = n * 4) (hR : RowAt w w b 117 (c * 4) F) (h1F : ∀ v ∈ F, v.oneCell' = true) :
    Calls Tryz.prog 145 #[.slice (some ⟨b, 0, none⟩) n c, .int .i64 i, .int .i64 ((i : Int) + 1)] w fun e w' =>
     e = .returned (.slice (some ⟨b, 0, none⟩) (n - 1) c) ∧ ∃ G, RowAt w w' b 117 (c * 4) (F.take (i * 4) ++ F.drop ((i + 1) * 4) ++ G) := by
 obtain ⟨i0, hi0, hzs⟩ : ∃ i0, Tryz.prog.info? 117 = some i0 ∧ i0.size = 4 := ⟨Tryz.t117, by kernel_rfl, rfl⟩
 have hdl : (F.drop ((i + 1) * 4)).length = (n - (i + 1)) * 4 := by rw [List.length_drop, hF, Nat.sub_mul]
 have h1D : ∀ v ∈ F.drop ((i + 1) * 4), v.oneCell' = true := fun v hv => h1F v (List.mem_of_mem_drop hv)
 have hsrc : ∀ a cc, (n - (i + 1) ≠ 0 → a = ⟨b, (i + 1) * 4, none⟩) → Src Tryz.prog i0.size 68 (.slice (some a) (n - (i + 1)) cc) (n - (i + 1)) (F.drop ((i + 1) * 4)) w.drew := fun a cc ha => by
  have hRd := hR.drew
  refine Src.ofSlice w.drew Tryz.underlying68 a (n - (i + 1)) cc _ (by rw [hzs, hdl]) (fun j u hj => ?_) h1D
  have hjl := (List.getElem?_eq_some_iff.1 hj).1
  rw [hdl] at hjl
  rw [ha (by intro e; rw [e] at hjl; omega), Addr.add_lit]
  exact hRd.cell (by rwa [List.getElem?_drop] at hj)
 have hsub : i + (n - (i + 1)) = n - 1 := by omega
 have hle1 : i * 4 + (n - (i + 1)) * 4 ≤ c * 4 := by rw [← Nat.add_mul]; exact Nat.mul_le_mul_right _ (by omega)
 have hle2 : i * 4 ≤ n * 4 := Nat.mul_le_mul_right _ (by omega)
 have hRd := hR.drew
 have hrun : ∀ a cc ty, (n - (i + 1) ≠ 0 → a = ⟨b, (i + 1) * 4, none⟩) → (Builtin.append_ #[68, 68] ty #[.slice (some ⟨b, 0, none⟩) i c, .slice (some a) (n - (i + 1)) cc]).run Tryz.prog w.drew = .ok (.slice (some ⟨b, 0, none⟩) (n - 1) c) (w.drew.setCells b (i * 4) (F.drop ((i + 1) * 4))) := fun a cc ty ha => by
  have h := run_append_room_src w.drew 68 68 ty 117 i0 Tryz.underlying68 hi0 b 0 i c _ (n - (i + 1)) _ (hsrc a cc ha) (by omega) (fun j hj => hRd.there (by rw [hdl] at hj; rw [hzs]; omega)) (fun j hj => hRd.frozen _)
  rw [hzs, Nat.zero_add, hsub] at h
  exact h
 have hR1 := hRd.set (F.drop ((i + 1) * 4)) (s := i * 4) (by rw [hF]; exact hle2) (by rw [hdl]; exact hle1)
 obtain ⟨W1, hW1⟩ : ∃ W1, W1 = w.drew.setCells b (i * 4) (F.drop ((i + 1) * 4)) := ⟨_, rfl⟩
 rw [← hW1] at hrun hR1
 have hlF1 : (F.take (i * 4) ++ F.drop ((i + 1) * 4) ++ F.drop (i * 4 + (F.drop ((i + 1) * 4)).length)).length = n * 4 := by
  simp only [List.length_append, List.length_take, List.length_drop, hF]
  have h1 : (i + 1) * 4 ≤ n * 4 := Nat.mul_le_mul_right _ hi
  rw [Nat.add_mul] at h1 ⊢
  omega
 have hn1 : (n - 1) * 4 + 4 = n * 4 := by
  have : (n - 1 + 1) * 4 = n * 4 := by congr 1; omega
  rw [Nat.add_mul] at this; omega
 have hnc : n * 4 ≤ c * 4 := Nat.mul_le_mul_right _ hn
 have hzl := sV (.agg #[.string ⟨#[]⟩, .int .i64 0, .int .i64 0, .string ⟨#[]⟩] : Value).cells 1
 have hz5 : (.agg #[.string ⟨#[]⟩, .int .i64 0, .int .i64 0, .string ⟨#[]⟩] : Value).cells.size = 4 := rfl
 rw [hz5] at hzl
 have hcl : ∀ ty cc, (Builtin.clear_ #[68] ty #[.slice (some ⟨b, (n - 1) * 4, none⟩) 1 cc]).run Tryz.prog W1 = .ok (.tuple #[]) (W1.setCells b ((n - 1) * 4) (Builtin.zeroCells (.agg #[.string ⟨#[]⟩, .int .i64 0, .int .i64 0, .string ⟨#[]⟩] : Value).cells 1).toList) :=
  fun ty cc => a3j W1 _ _ ty _ Tryz.underlying68 (fun w => Tryz.zeroValue117 w) b ((n - 1) * 4) _ _ (by omega) (fun t ht => hR1.there (by rw [hz5] at ht; omega)) (fun t ht => hR1.frozen _) (a0i (by intro v hv; simp [Value.cells] at hv; rcases hv with rfl | rfl | rfl | rfl <;> rfl) _)
 have HE : Aside (∃ G, RowAt w (W1.setCells b ((n - 1) * 4) (Builtin.zeroCells (.agg #[.string ⟨#[]⟩, .int .i64 0, .int .i64 0, .string ⟨#[]⟩] : Value).cells 1).toList) b 117 (c * 4) (F.take (i * 4) ++ F.drop ((i + 1) * 4) ++ G)) := by
  have h := hR1.set (Builtin.zeroCells (.agg #[.string ⟨#[]⟩, .int .i64 0, .int .i64 0, .string ⟨#[]⟩] : Value).cells 1).toList (s := (n - 1) * 4) (by rw [hlF1]; omega) (by rw [hzl]; omega)
  have hd1 : (F.take (i * 4) ++ F.drop ((i + 1) * 4)).length = (n - 1) * 4 := by
   simp only [List.length_append, List.length_take, hdl, hF]
   have h2 : i * 4 + (n - (i + 1)) * 4 = (n - 1) * 4 := by rw [← Nat.add_mul, hsub]
   omega
  rw [List.take_append_of_le_length (by rw [hd1]; omega), List.take_of_length_le (by rw [hd1]; omega), List.append_assoc] at h
  exact ⟨_, h⟩
 have hb3 : (i : Int) + 1 ≤ (n : Int) := by omega
 have hb1 : (0 : Int) ≤ (i : Int) + 1 := by omega
 have hb4 : ¬ ((i : Int) = (i : Int) + 1) := by omega
 have hb5 : (i : Int) ≤ (i : Int) + 1 := by omega
 have htn : ((i : Int) + 1).toNat = i + 1 := by omega
 have hin : i ≤ n := by omega
 have hic : i ≤ c := by omega
 have hb6 : ((n - 1 : Nat) : Int) ≤ (n : Int) := by omega
 have hb7 : n - (n - 1) = 1 := by omega
 have hb8 : ¬ (c = n - 1) := by omega
 have mixed := fol
 clear hR hRd hR1 hsrc h1F h1D hlF1 hzl hz5 hn1 hnc hle1 hle2
 by_cases hci : c = i + 1
 ·have hni : n = i + 1 := by omega
  subst hni
  subst hci
  have hnil : F.drop ((i + 1) * 4) = [] := List.eq_nil_of_length_eq_zero (by rw [hdl, Nat.sub_self, Nat.zero_mul])
  have hW0 : W1 = w.drew := by rw [hW1, hnil]; rfl
  rw [hW0] at hcl HE
  simp only [Nat.add_sub_cancel] at hcl HE
  clear hW1 hW0 hF hdl hrun hnil
  go_enter Tryz.func145, Tryz.ntmps145
  go_wp2_with fail
  go_region_law_o (fail)
  go_wp2
  go_ret
  exact ⟨rfl, HE.out⟩
 ·clear hW1 hF hdl
  go_enter Tryz.func145, Tryz.ntmps145
  go_wp2_with fail
  go_region_law_o (refine a2C rfl _ _ 68 68 rfl (.slice (some ⟨b, 0, none⟩) i c) (.slice (some ⟨b, (i + 1) * 4, none⟩) (n - (i + 1)) (c - (i + 1))) (by simp [Act.eval, Act.put]) (by simp [Act.eval, Act.put]) (hrun ⟨b, (i + 1) * 4, none⟩ (c - (i + 1)) _ (fun _ => rfl)) ?_)
  go_wp2
  go_ret
  exact ⟨rfl, HE.out⟩
theorem a3n (l : List TAttr) (i : Nat) (hi : i < l.length) (hl : l.length ≤ 8388608) :
    FnI Tryz.prog 145 117 4 (l.map aJ) [oi i, oi ((i : Int) + 1)] false ((kY i l).map aJ) := by
 refine ⟨Tryz.call145, fun V w y S vs hm hrow hnd hlt hargs => ?_⟩
 have hl1 : vs.length = 2 := by have := hargs.1; simpa using this
 match vs, hl1 with
 | [v1, v2], _ =>
  obtain ⟨_, e1⟩ : ∃ S, Lay V (.v (.int .i64 i)) v1 S := hargs.2 0 _ v1 rfl rfl
  obtain ⟨_, e2⟩ : ∃ S, Lay V (.v (.int .i64 ((i : Int) + 1))) v2 S := hargs.2 1 _ v2 rfl rfl
  cases e1; cases e2
  obtain ⟨hu, h⟩ := a1U hrow
  have hi' : i < (l.map aJ).length := by simpa using hi
  rcases h with ⟨_, hnil, _⟩ | ⟨b, cap, ys, Ss, rfl, e3, e4, hR, el, eL, eV, rfl⟩
  ·rw [hnil] at hi'; exact absurd hi' (by simp)
  ·have hup2 := eL.take (i * 4)
   have hup3 := eL.drop ((i + 1) * 4)
   rw [← zS i hu] at hup2
   rw [← nS (i + 1) hu] at hup3
   have hL := hup2.append hup3
   rw [← List.flatten_append] at hL
   refine (a6o b cap i (l.map aJ).length ys w hi' e3 (by unfold maxLen at e4; omega) el hR eL.oneCell).mono ?_
   rintro e w' ⟨rfl, G, hG⟩
   have hlen : ((l.map aJ).take i ++ (l.map aJ).drop (i + 1)).length = (l.map aJ).length - 1 := by simp; omega
   have hrw := a8s (V := V) (cap := cap) (fun r hr => by
    rcases List.mem_append.1 hr with h' | h'
    ·exact hu r (List.mem_of_mem_take h')
    ·exact hu r (List.mem_of_mem_drop h')) hL hG (by rw [hlen]; omega) e4 eV
   rw [hlen] at hrw
   have hsub : (Ss.take (i * 4) ++ Ss.drop ((i + 1) * 4)).Sublist Ss := by
    conv => rhs; rw [← List.take_append_drop (i * 4) Ss]
    refine List.Sublist.append_left ?_ _
    rw [Nat.add_mul, ← List.drop_drop]
    exact List.drop_sublist _ _
   have hfs := a3l hsub
   refine ⟨_, rfl, (fun h => (by cases h)), ⟨hG.grown, b :: (Ss.take (i * 4) ++ Ss.drop ((i + 1) * 4)).flatten, ?_, ?_, (fun n hn => .inl ?_), (fun h => (by cases h))⟩⟩
   ·rw [b6Q]; exact hrw
   ·exact hnd.sublist (hfs.cons_cons b)
   ·exact (hfs.cons_cons b).subset hn
end Go.Proofs.YteaaopodnbjpoaaGreat
end
section
set_option maxRecDepth 100000
set_option maxHeartbeats 4000000
namespace Go.Proofs.YteaaopodnbjpoaaGreat
open Go Go.Sx Go.RowKit Go.Proofs Go.Sx.Clos
def wtF (c : TCatalog) (id : Int) : TFile := dJ id c.fStore.fFiles
noncomputable def wtE (c : TCatalog) (u : Int) (n : ByteArray) (id : Int) (b : Bool) : TEdit := mZ (iT c.fDirs n).fQuery (dJ id (vis c.fStore u).fFiles) (evU c.fStore c.fDirs u) b
noncomputable def wtG (c : TCatalog) (u : Int) (n : ByteArray) (id : Int) (b : Bool) : TFile := kN (wtF c id) (wtE c u n id b)
noncomputable def wt0 (c : TCatalog) (u : Int) (n : ByteArray) (id : Int) : Bool := curB c && (decide (0 ≤ ixF id c.fStore.fFiles) && (canW (wtF c id) u && a6b c.fDirs n))
noncomputable def wt1 (c : TCatalog) (u : Int) (n : ByteArray) (id : Int) (b : Bool) : Bool := (wtE c u n id b).fOK && (mK c (wtG c u n id b) && (isL (jH c.fStore (wtG c u n id b)) c.fDirs u n id == b))
def xQ (e : TEdit) (i : Nat) : TEdit := ⟨true, kY i e.fSet⟩
noncomputable def wtL (c : TCatalog) (u : Int) (n : ByteArray) (id : Int) (b : Bool) (i : Nat) : TFile := kN (wtF c id) (xQ (wtE c u n id b) i)
noncomputable def rJ (c : TCatalog) (u : Int) (n : ByteArray) (id : Int) (b : Bool) (i : Nat) : Bool := isL (jH c.fStore (wtL c u n id b i)) c.fDirs u n id == b
noncomputable def wt2 (c : TCatalog) (u : Int) (n : ByteArray) (id : Int) (b : Bool) (k : Nat) : Bool := (List.range k).all fun i => !rJ c u n id b i
noncomputable def wtB (c : TCatalog) (u : Int) (n : ByteArray) (id : Int) (b : Bool) : Bool := wt0 c u n id && (wt1 c u n id b && wt2 c u n id b (wtE c u n id b).fSet.length)
noncomputable def wtC (c : TCatalog) (u : Int) (n : ByteArray) (id : Int) (b : Bool) : TCatalog := if wtB c u n id b then mW c (wtG c u n id b) else c
noncomputable def wtA (c : TCatalog) (u : Int) (n : ByteArray) (id : Int) (b : Bool) : List TAttr := if wtB c u n id b then (wtE c u n id b).fSet else []
theorem a1f {c : TCatalog} {u : Int} {n : ByteArray} {id : Int} {b : Bool} (h0 : wt0 c u n id = true) (h : mK c (wtG c u n id b) = true) (i : Nat) : mK c (wtL c u n id b i) = true := by
 have h' := h
 unfold mK at h ⊢
 rw [Bool.and_eq_true] at h ⊢
 refine ⟨h.1, ?_⟩
 obtain ⟨q1, q2, q3⟩ := a2h.1 h.2
 have hid : ∀ e : TEdit, (kN (wtF c id) e).fID = (wtF c id).fID := fun _ => rfl
 refine a2h.2 ⟨q1, by rw [wtL, hid]; rw [wtG, hid] at q2; exact q2, ?_⟩
 have hok : eG c.fStore.fSchema (wtF c id) = true := by
  unfold wt0 at h0
  simp only [Bool.and_eq_true, decide_eq_true_eq] at h0
  rcases ixF_cases id c.fStore.fFiles with e | ⟨p, e, hp, _⟩
  ·omega
  ·unfold wtF
   rw [zC e hp]
   exact ((pI hp).1 ((rO.1 q1).1 p hp)).1
 refine b7C hok q3 (b0v ..) fun x hx => ?_
 have : x ∈ kY i (wtE c u n id b).fSet := hx
 unfold kY at this
 rcases List.mem_append.1 this with h | h
 ·exact List.mem_of_mem_take h
 ·exact List.mem_of_mem_drop h
theorem jQ {c : TCatalog} {f : TFile} (h : mK c f = true) : (mW c f).fStore = jH c.fStore f ∧ (mW c f).fDirs = c.fDirs := by unfold mW; rw [h]; exact ⟨rfl, rfl⟩
theorem a1g (c : TCatalog) (u : Int) (n : ByteArray) (id : Int) (b : Bool) (k : Nat) : wt2 c u n id b (k + 1) = (wt2 c u n id b k && !rJ c u n id b k) := by
 unfold wt2
 rw [List.range_succ, List.all_append]
 simp
theorem a7K {p : Nat → Bool} {m k : Nat} (hk : k < m) (h : p k = false) : (List.range m).all p = false := by
 cases hq : (List.range m).all p
 ·rfl
 ·have := List.all_eq_true.1 hq k (List.mem_range.2 hk)
  rw [h] at this; cases this
theorem a9l (c : TCatalog) (u : Int) (n : ByteArray) (id : Int) (b : Bool) : gG (wtE c u n id b) ≤ 8192 := b7D ..
theorem b2m (f : TFile) (e : TEdit) : wFile (kN f e) ≤ wFile f + gG e := by
 have h := a5C f.fAttrs e.fSet e.fSet.length
 rw [List.take_length] at h
 exact h
theorem a1h (c : TCatalog) (u : Int) (n : ByteArray) (id : Int) (b : Bool) (k : Nat) : gG (xQ (wtE c u n id b) k) ≤ 8192 := by
 have h := a9l c u n id b
 have h1 := b7G wAttr k (wtE c u n id b).fSet
 have h2 : (kY k (wtE c u n id b).fSet).length ≤ (wtE c u n id b).fSet.length := by simp [kY]; omega
 unfold gG aV at h ⊢
 show (kY k (wtE c u n id b).fSet).length + wsum wAttr (kY k (wtE c u n id b).fSet) ≤ 8192
 omega
theorem b2n (c : TCatalog) (u : Int) (n : ByteArray) (id : Int) (b : Bool) (k : Nat) : wFile (wtL c u n id b k) ≤ wFile (dJ id c.fStore.fFiles) + 8192 := by
 have h := b2m (wtF c id) (xQ (wtE c u n id b) k)
 have h2 := a1h c u n id b k
 unfold wtL
 unfold wtF at h ⊢
 omega
theorem a1i (c : TCatalog) (u id : Int) (n : ByteArray) (b : Bool) (h : wCatalog c ≤ 1048576) : FnC Tryz.prog 72 [bZ c, oi u, os n, oi id, ob b] (.t [(true, (mG (wtC c u n id b)).cells), (false, [.w 117 4 ((wtA c u n id b).map aJ)]), (false, [.d (bv (wtB c u n id b))])]) := by
 have hc : wCatalog c = aL c.fStore + aY c.fDirs + aG c.fResults := rfl
 have hb : aL c.fStore = aN c.fStore.fSchema + cZ c.fStore.fFiles := rfl
 have hfw := vU id c.fStore.fFiles
 have hvw := b2s c.fStore u
 have hsw := vU id (vis c.fStore u).fFiles
 have hvb : aL (vis c.fStore u) = aN (vis c.fStore u).fSchema + cZ (vis c.fStore u).fFiles := rfl
 have hdw := b2o c.fDirs n
 have hdb : wDir (iT c.fDirs n) = (iT c.fDirs n).fName.size + bK (iT c.fDirs n).fQuery := rfl
 have hew := a9m c.fStore c.fDirs u
 refine ent Tryz.func72 rfl Tryz.call72 rfl (fun C => ?_); simp only [go_sem, st0, Tryz.ntmps72]
 cases g1 : curB c
 ·skip
  have e : wtB c u n id b = false := by simp [wtB, wt0, wtF, g1]
  have q0 := @g1; refine b8r (fZ c.fStore id (by omega)) (kR c.fDirs n (by omega)) (jM c (by omega)) (gL c (by omega)) ?_
  exact aA ⟨⟨_, rfl, by simp only [go_sem, wtC, wtA, e, Bool.false_eq_true, if_false, List.map_nil]; try simp⟩, by simp [aU]⟩
 by_cases g2 : 0 ≤ ixF id c.fStore.fFiles
 case neg =>
  have vi : decide (0 ≤ ixF id c.fStore.fFiles) = false := by simp [g2]
  have e : wtB c u n id b = false := by simp [wtB, wt0, wtF, g2]
  have q0 := @g1; have q1 := @vi; refine b3x (fZ c.fStore id (by omega)) (kR c.fDirs n (by omega)) (jM c (by omega)) (gL c (by omega)) ?_
  exact aA ⟨⟨_, rfl, by simp only [go_sem, wtC, wtA, e, Bool.false_eq_true, if_false, List.map_nil]; try simp⟩, by simp [aU]⟩
 have vi : decide (0 ≤ ixF id c.fStore.fFiles) = true := by simp [g2]
 cases g3 : canW (dJ id c.fStore.fFiles) u
 ·skip
  have e : wtB c u n id b = false := by simp [wtB, wt0, wtF, g3]
  have q0 := @g1; have q1 := @vi; have q2 := @g3; refine c0j (fZ c.fStore id (by omega)) (kR c.fDirs n (by omega)) (jM c (by omega)) (rU (dJ id c.fStore.fFiles) u) (gL c (by omega)) ?_
  exact aA ⟨⟨_, rfl, by simp only [go_sem, wtC, wtA, e, Bool.false_eq_true, if_false, List.map_nil]; try simp⟩, by simp [aU]⟩
 cases g4 : a6b c.fDirs n
 ·skip
  have e : wtB c u n id b = false := by simp [wtB, wt0, wtF, g4]
  have q0 := @g1; have q1 := @vi; have q2 := @g3; have q3 := @g4; refine c0l (fZ c.fStore id (by omega)) (kR c.fDirs n (by omega)) (jM c (by omega)) (rU (dJ id c.fStore.fFiles) u) (gL c (by omega)) ?_
  exact aA ⟨⟨_, rfl, by simp only [go_sem, wtC, wtA, e, Bool.false_eq_true, if_false, List.map_nil]; try simp⟩, by simp [aU]⟩
 have g0 : wt0 c u n id = true := by simp [wt0, wtF, g1, g2, g3, g4]
 have hEw := a9l c u n id b
 have hGw := b2m (wtF c id) (wtE c u n id b)
 cases b
 ·have hG : wtG c u n id false = kN (wtF c id) (wtE c u n id false) := rfl
  have hed : FnC Tryz.prog 141 [.o (.d (.sl ((iT c.fDirs n).fQuery.map aT))), bC (dJ id (vis c.fStore u).fFiles), .o (.d (.sl ((evU c.fStore c.fDirs u).map aH)))] (a2M (wtE c u n id false)) := uP (iT c.fDirs n).fQuery (dJ id (vis c.fStore u).fFiles) (evU c.fStore c.fDirs u) (by omega) (by omega) (by omega)
  have happ : FnC Tryz.prog 143 [bC (dJ id c.fStore.fFiles), gT (wtE c u n id false)] (wX (wtG c u n id false)) := nR (wtF c id) (wtE c u n id false) (by unfold wtF; omega)
  have hup := sN c (wtG c u n id false) (by rw [hG]; unfold wtF at hGw ⊢; omega)
  have hex : FnC Tryz.prog 141 [.o (.d (.sl ((iT c.fDirs n).fQuery.map aT))), bC (dJ id (vis c.fStore u).fFiles), .o (.d (.sl ((evU c.fStore c.fDirs u).map aH)))] (gT (wtE c u n id false)) := sD (iT c.fDirs n).fQuery (dJ id (vis c.fStore u).fFiles) (evU c.fStore c.fDirs u) (by omega) (by omega) (by omega)
  have qH := aI @g1 (aI @vi (aI @g3 (aI @g4 (aI @Bool.true_beq @Bool.false_beq)))); repeat' (with_reducible first | refine nY ?_ | (refine mX ?_; try simp only [go_sem, qH]) | refine kD ?_ | (apply rE [3,4,9,10] [] [0,1,2] [0,1,2] ((.c 3 [] [0] (.c 4 [5,6,7,8] [5,6,7,8] (.c 9 [] [5,6,7,8] (.c 10 [11,12] [7,8,11,12] .n .n) .n) (.c 9 [] [0] (.c 4 [5,6,7,8] [5,6,7,8] (.c 10 [11,12] [7,8,11,12] .n .n) .n) .n)) (.c 9 [] [0,1,2] (.c 3 [] [0] (.c 4 [5,6,7,8] [5,6,7,8] (.c 10 [11,12] [7,8,11,12] .n .n) .n) .n) .n))) (by simp only [go_sem]; rfl) (by simp only [go_sem]; rfl) (by simp only [go_sem]; rfl) (by decide +kernel); (focus simp only [go_sem]; done)) | exact bU | refine bF (uX ?_) ?_ | refine bG (aX ?_) ?_ | refine bH (aX ?_) ?_ | exact bE | (refine dB [(8, 9), (9, 10), (10, 11), (11, 12), (12, 13)] (by simp only [go_sem]; rfl) ?_; exact rfl) | (refine dB [(7, 8), (8, 9), (9, 10), (10, 11), (11, 12), (12, 13)] (by simp only [go_sem]; rfl) ?_; exact rfl) | exact oH | exact uB | refine rD ?_ | refine cP (fZ c.fStore id (by omega)) ?_ | refine cP (kR c.fDirs n (by omega)) ?_ | refine cP (jM c (by omega)) ?_ | refine cP (rU (dJ id c.fStore.fFiles) u) ?_ | refine cP (xR c.fStore u (by omega)) ?_ | refine cP (fZ (vis c.fStore u) id (by omega)) ?_ | refine cP (xS c.fStore c.fDirs u (by omega) (by omega)) ?_ | refine cP hed ?_ | refine vR happ ?_ | refine vG happ ?_ | refine cP hup ?_ | refine aO ?_ | fail)
  cases e1 : (wtE c u n id false).fOK
  ·skip
   have e : wtB c u n id false = false := by simp [wtB, wt1, e1]
   try simp only [go_sem, e1]
   have q0 := @Bool.true_beq; have q1 := @Bool.false_beq; have q2 := @e1; refine jP (gL c (by omega)) ?_
   exact aA ⟨⟨_, rfl, by simp only [go_sem, wtC, wtA, e, Bool.false_eq_true, if_false, List.map_nil]; try simp⟩, by simp [aU]⟩
  try simp only [go_sem, e1]
  have q0 := @Bool.true_beq; have q1 := @Bool.false_beq; refine fI ?_
  cases e2 : mK c (wtG c u n id false)
  ·skip
   have e : wtB c u n id false = false := by simp [wtB, wt1, e2]
   try simp only [go_sem, e2]
   have q0 := @Bool.true_beq; have q1 := @Bool.false_beq; have q2 := @e2; refine jP (gL c (by omega)) ?_
   exact aA ⟨⟨_, rfl, by simp only [go_sem, wtC, wtA, e, Bool.false_eq_true, if_false, List.map_nil]; try simp⟩, by simp [aU]⟩
  have hil : FnC Tryz.prog 144 [cB (mW c (wtG c u n id false)).fStore, .o (.d (.sl ((mW c (wtG c u n id false)).fDirs.map aS))), oi u, os n, oi id] (ob (isL (jH c.fStore (wtG c u n id false)) c.fDirs u n id)) := by
   rw [(jQ e2).1, (jQ e2).2]
   have hrw := qO c.fStore (wtG c u n id false)
   exact vP _ _ u n id (by rw [hG] at hrw ⊢; unfold wtF at hGw hrw ⊢; omega) (by omega)
  try simp only [go_sem, e2]
  have qH := aI @Bool.true_beq @Bool.false_beq; repeat' (with_reducible first | refine nY ?_ | (refine mX ?_; try simp only [go_sem, qH]) | refine kD ?_ | refine rD ?_ | refine vL hil ?_ | refine aO ?_ | fail)
  cases e3 : isL (jH c.fStore (wtG c u n id false)) c.fDirs u n id
  case true =>
   have e : wtB c u n id false = false := by simp [wtB, wt1, e3]
   simp only [Bool.false_beq, Bool.true_beq, Bool.not_false, Bool.not_true]
   have q0 := @Bool.true_beq; have q1 := @Bool.false_beq; have q2 := @e3; refine jP (gL c (by omega)) ?_
   exact aA ⟨⟨_, rfl, by simp only [go_sem, wtC, wtA, e, Bool.false_eq_true, if_false, List.map_nil]; try simp⟩, by simp [aU]⟩
  have g5 : wt1 c u n id false = true := by simp [wt1, e1, e2, e3]
  simp only [Bool.false_beq, Bool.true_beq, Bool.not_false, Bool.not_true]
  have q0 := @Bool.true_beq; have q1 := @Bool.false_beq; refine fI ?_
  have hSw : aV (wtE c u n id false).fSet ≤ 8192 := hEw
  have hSl : (wtE c u n id false).fSet.length ≤ 8192 := by unfold aV at hSw; omega
  refine aM (α := Nat) (fun k => [(125, oi k)]) (fun _ => []) (fun k => k ≤ (wtE c u n id false).fSet.length ∧ wt2 c u n id false k = true) (fun k => (wtE c u n id false).fSet.length - k) 0 (fun _ => ?_) ?_ ?_ (fun k hk => ?_)
  ·simp only [go_sem]
  ·simp only [go_sem]; try simp
  ·exact ⟨Nat.zero_le _, rfl⟩
  ·obtain ⟨hk1, hk2⟩ := hk
   simp only [go_sem]
   refine aD ?_
   refine cnd rfl (fun h1 => ?_) (fun h1 => ?_)
   ·simp only [decide_eq_true_eq, Int.ofNat_lt, List.length_map] at h1
    have hLw : wFile (wtL c u n id false k) ≤ wFile (dJ id c.fStore.fFiles) + 8192 := b2n c u n id false k
    have hlw : gG (xQ (wtE c u n id false) k) ≤ 8192 := a1h c u n id false k
    have hyB := a1f g0 e2 k
    have hcl := mJ (wtE c u n id false).fSet (by omega)
    have hdl := a3n (wtE c u n id false).fSet k h1 (by omega)
    have hal : FnC Tryz.prog 143 [bC (dJ id c.fStore.fFiles), .g [.d (bv true), .d (.sl ((kY k (wtE c u n id false).fSet).map aJ))]] (bC (wtL c u n id false k)) := rZ (wtF c id) (xQ (wtE c u n id false) k) (by unfold wtF; omega)
    have hul := yC c (wtL c u n id false k) (by omega)
    have hrl := qO c.fStore (wtL c u n id false k)
    have hi2 : FnC Tryz.prog 144 [cB (mW c (wtL c u n id false k)).fStore, .o (.d (.sl ((mW c (wtL c u n id false k)).fDirs.map aS))), oi u, os n, oi id] (ob (isL (jH c.fStore (wtL c u n id false k)) c.fDirs u n id)) := by
     rw [(jQ hyB).1, (jQ hyB).2]
     exact vP _ _ u n id (by omega) (by omega)
    rw [hyB] at hul
    have qH := aI @h1 (aI @Bool.true_beq @Bool.false_beq); repeat' (with_reducible first | refine nY ?_ | (refine mX ?_; try simp only [go_sem, qH]) | refine kD ?_ | (apply rE [3,4,9,10] [] [0,1,2] [0,1,2] ((.c 3 [] [0] (.c 4 [5,6,7,8] [5,6,7,8] (.c 9 [] [5,6,7,8] (.c 10 [11,12] [7,8,11,12] .n .n) .n) (.c 9 [] [0] (.c 4 [5,6,7,8] [5,6,7,8] (.c 10 [11,12] [7,8,11,12] .n .n) .n) .n)) (.c 9 [] [0,1,2] (.c 3 [] [0] (.c 4 [5,6,7,8] [5,6,7,8] (.c 10 [11,12] [7,8,11,12] .n .n) .n) .n) .n))) (by simp only [go_sem]; rfl) (by simp only [go_sem]; rfl) (by simp only [go_sem]; rfl) (by decide +kernel); (focus simp only [go_sem]; done)) | exact bU | refine bF (uX ?_) ?_ | refine bG (aX ?_) ?_ | refine bH (aX ?_) ?_ | exact bE | exact oH | exact uB | refine rD ?_ | refine vR hcl ?_ | refine vG hcl ?_ | refine vI hdl ?_ | refine vJ hdl ?_ | refine cP hal ?_ | refine cP hul ?_ | refine cP hi2 ?_ | refine aO ?_ | fail)
    cases e4 : isL (jH c.fStore (wtL c u n id false k)) c.fDirs u n id
    ·simp only [Bool.false_beq, Bool.true_beq, Bool.not_false, Bool.not_true]
     have hb : wt2 c u n id false (wtE c u n id false).fSet.length = false := a7K h1 (show (!rJ c u n id false k) = false by simp [rJ, e4])
     have e : wtB c u n id false = false := by simp [wtB, hb]
     have q0 := @Bool.true_beq; have q1 := @Bool.false_beq; refine jZ (gL c (by omega)) ?_
     exact aA ⟨⟨_, rfl, by simp only [go_sem, wtC, wtA, e, Bool.false_eq_true, if_false, List.map_nil]; try simp⟩, by simp [aU]⟩
    ·simp only [Bool.false_beq, Bool.true_beq, Bool.not_false, Bool.not_true]
     have hn : wt2 c u n id false (k + 1) = true := by rw [a1g, hk2]; simp [rJ, e4]
     have q0 := @Bool.true_beq; have q1 := @Bool.false_beq; refine fI ?_
     refine aC (k + 1) ?_ ?_ ?_
     ·simp only [go_sem]; try simp
     ·exact ⟨by omega, hn⟩
     ·omega
   ·simp only [decide_eq_false_iff_not, Int.ofNat_lt, List.length_map] at h1
    have ek : k = (wtE c u n id false).fSet.length := by omega
    subst ek
    have e : wtB c u n id false = true := by simp [wtB, g0, g5, hk2]
    have qH := trivial; repeat' (with_reducible first | refine nY ?_ | (refine mX ?_; try simp only [go_sem]) | refine kD ?_ | (apply rE [3] [] [0,1,2] [0,1,2] ((.c 3 [4,5] [1,2,4,5] .n .n)) (by simp only [go_sem]; rfl) (by simp only [go_sem]; rfl) (by simp only [go_sem]; rfl) (by decide +kernel); (focus simp only [go_sem]; done)) | exact bU | refine bF (uX ?_) ?_ | refine bG (aX ?_) ?_ | refine bH (aX ?_) ?_ | exact bE | exact oH | (refine uA ?_; simp only [go_sem]; (repeat' first | omega | refine And.intro ?_ ?_); done) | refine rD ?_ | refine aO ?_ | fail)
    exact aA ⟨⟨_, rfl, by simp only [go_sem, wtC, wtA, e, if_true]; try simp⟩, by simp [aU]⟩
 ·have hG : wtG c u n id true = kN (wtF c id) (wtE c u n id true) := rfl
  have hed : FnC Tryz.prog 142 [.o (.d (.sl ((iT c.fDirs n).fQuery.map aT))), bC (dJ id (vis c.fStore u).fFiles), .o (.d (.sl ((evU c.fStore c.fDirs u).map aH)))] (a2M (wtE c u n id true)) := a5S (iT c.fDirs n).fQuery (dJ id (vis c.fStore u).fFiles) (evU c.fStore c.fDirs u) (by omega) (by omega) (by omega)
  have happ : FnC Tryz.prog 143 [bC (dJ id c.fStore.fFiles), gT (wtE c u n id true)] (wX (wtG c u n id true)) := nR (wtF c id) (wtE c u n id true) (by unfold wtF; omega)
  have hup := sN c (wtG c u n id true) (by rw [hG]; unfold wtF at hGw ⊢; omega)
  have hex : FnC Tryz.prog 141 [.o (.d (.sl ((iT c.fDirs n).fQuery.map aT))), bC (dJ id (vis c.fStore u).fFiles), .o (.d (.sl ((evU c.fStore c.fDirs u).map aH)))] (gT (wtE c u n id false)) := sD (iT c.fDirs n).fQuery (dJ id (vis c.fStore u).fFiles) (evU c.fStore c.fDirs u) (by omega) (by omega) (by omega)
  have qH := aI @g1 (aI @vi (aI @g3 (aI @g4 (aI @Bool.true_beq @Bool.false_beq)))); repeat' (with_reducible first | refine nY ?_ | (refine mX ?_; try simp only [go_sem, qH]) | refine kD ?_ | (apply rE [3,4,9,10] [] [0,1,2] [0,1,2] ((.c 3 [] [0] (.c 4 [5,6,7,8] [5,6,7,8] (.c 9 [] [5,6,7,8] (.c 10 [11,12] [7,8,11,12] .n .n) .n) (.c 9 [] [0] (.c 4 [5,6,7,8] [5,6,7,8] (.c 10 [11,12] [7,8,11,12] .n .n) .n) .n)) (.c 9 [] [0,1,2] (.c 3 [] [0] (.c 4 [5,6,7,8] [5,6,7,8] (.c 10 [11,12] [7,8,11,12] .n .n) .n) .n) .n))) (by simp only [go_sem]; rfl) (by simp only [go_sem]; rfl) (by simp only [go_sem]; rfl) (by decide +kernel); (focus simp only [go_sem]; done)) | exact bU | refine bF (uX ?_) ?_ | refine bG (aX ?_) ?_ | refine bH (aX ?_) ?_ | exact bE | (refine dB [(8, 9), (9, 10), (10, 11), (11, 12), (12, 13)] (by simp only [go_sem]; rfl) ?_; exact rfl) | (refine dB [(7, 8), (8, 9), (9, 10), (10, 11), (11, 12), (12, 13)] (by simp only [go_sem]; rfl) ?_; exact rfl) | exact oH | exact uB | refine rD ?_ | refine cP (fZ c.fStore id (by omega)) ?_ | refine cP (kR c.fDirs n (by omega)) ?_ | refine cP (jM c (by omega)) ?_ | refine cP (rU (dJ id c.fStore.fFiles) u) ?_ | refine cP (xR c.fStore u (by omega)) ?_ | refine cP (fZ (vis c.fStore u) id (by omega)) ?_ | refine cP (xS c.fStore c.fDirs u (by omega) (by omega)) ?_ | refine cP hex ?_ | refine cP hed ?_ | refine vR happ ?_ | refine vG happ ?_ | refine cP hup ?_ | refine aO ?_ | fail)
  cases e1 : (wtE c u n id true).fOK
  ·skip
   have e : wtB c u n id true = false := by simp [wtB, wt1, e1]
   try simp only [go_sem, e1]
   have q0 := @Bool.true_beq; have q1 := @Bool.false_beq; have q2 := @e1; refine jP (gL c (by omega)) ?_
   exact aA ⟨⟨_, rfl, by simp only [go_sem, wtC, wtA, e, Bool.false_eq_true, if_false, List.map_nil]; try simp⟩, by simp [aU]⟩
  try simp only [go_sem, e1]
  have q0 := @Bool.true_beq; have q1 := @Bool.false_beq; refine fI ?_
  cases e2 : mK c (wtG c u n id true)
  ·skip
   have e : wtB c u n id true = false := by simp [wtB, wt1, e2]
   try simp only [go_sem, e2]
   have q0 := @Bool.true_beq; have q1 := @Bool.false_beq; have q2 := @e2; refine jP (gL c (by omega)) ?_
   exact aA ⟨⟨_, rfl, by simp only [go_sem, wtC, wtA, e, Bool.false_eq_true, if_false, List.map_nil]; try simp⟩, by simp [aU]⟩
  have hil : FnC Tryz.prog 144 [cB (mW c (wtG c u n id true)).fStore, .o (.d (.sl ((mW c (wtG c u n id true)).fDirs.map aS))), oi u, os n, oi id] (ob (isL (jH c.fStore (wtG c u n id true)) c.fDirs u n id)) := by
   rw [(jQ e2).1, (jQ e2).2]
   have hrw := qO c.fStore (wtG c u n id true)
   exact vP _ _ u n id (by rw [hG] at hrw ⊢; unfold wtF at hGw hrw ⊢; omega) (by omega)
  try simp only [go_sem, e2]
  have qH := aI @Bool.true_beq @Bool.false_beq; repeat' (with_reducible first | refine nY ?_ | (refine mX ?_; try simp only [go_sem, qH]) | refine kD ?_ | refine rD ?_ | refine vL hil ?_ | refine aO ?_ | fail)
  cases e3 : isL (jH c.fStore (wtG c u n id true)) c.fDirs u n id
  case false =>
   have e : wtB c u n id true = false := by simp [wtB, wt1, e3]
   simp only [Bool.false_beq, Bool.true_beq, Bool.not_false, Bool.not_true]
   have q0 := @Bool.true_beq; have q1 := @Bool.false_beq; have q2 := @e3; refine jP (gL c (by omega)) ?_
   exact aA ⟨⟨_, rfl, by simp only [go_sem, wtC, wtA, e, Bool.false_eq_true, if_false, List.map_nil]; try simp⟩, by simp [aU]⟩
  have g5 : wt1 c u n id true = true := by simp [wt1, e1, e2, e3]
  simp only [Bool.false_beq, Bool.true_beq, Bool.not_false, Bool.not_true]
  have q0 := @Bool.true_beq; have q1 := @Bool.false_beq; refine fI ?_
  have hSw : aV (wtE c u n id true).fSet ≤ 8192 := hEw
  have hSl : (wtE c u n id true).fSet.length ≤ 8192 := by unfold aV at hSw; omega
  refine aM (α := Nat) (fun k => [(125, oi k)]) (fun _ => []) (fun k => k ≤ (wtE c u n id true).fSet.length ∧ wt2 c u n id true k = true) (fun k => (wtE c u n id true).fSet.length - k) 0 (fun _ => ?_) ?_ ?_ (fun k hk => ?_)
  ·simp only [go_sem]
  ·simp only [go_sem]; try simp
  ·exact ⟨Nat.zero_le _, rfl⟩
  ·obtain ⟨hk1, hk2⟩ := hk
   simp only [go_sem]
   refine aD ?_
   refine cnd rfl (fun h1 => ?_) (fun h1 => ?_)
   ·simp only [decide_eq_true_eq, Int.ofNat_lt, List.length_map] at h1
    have hLw : wFile (wtL c u n id true k) ≤ wFile (dJ id c.fStore.fFiles) + 8192 := b2n c u n id true k
    have hlw : gG (xQ (wtE c u n id true) k) ≤ 8192 := a1h c u n id true k
    have hyB := a1f g0 e2 k
    have hcl := mJ (wtE c u n id true).fSet (by omega)
    have hdl := a3n (wtE c u n id true).fSet k h1 (by omega)
    have hal : FnC Tryz.prog 143 [bC (dJ id c.fStore.fFiles), .g [.d (bv true), .d (.sl ((kY k (wtE c u n id true).fSet).map aJ))]] (bC (wtL c u n id true k)) := rZ (wtF c id) (xQ (wtE c u n id true) k) (by unfold wtF; omega)
    have hul := yC c (wtL c u n id true k) (by omega)
    have hrl := qO c.fStore (wtL c u n id true k)
    have hi2 : FnC Tryz.prog 144 [cB (mW c (wtL c u n id true k)).fStore, .o (.d (.sl ((mW c (wtL c u n id true k)).fDirs.map aS))), oi u, os n, oi id] (ob (isL (jH c.fStore (wtL c u n id true k)) c.fDirs u n id)) := by
     rw [(jQ hyB).1, (jQ hyB).2]
     exact vP _ _ u n id (by omega) (by omega)
    rw [hyB] at hul
    have qH := aI @h1 (aI @Bool.true_beq @Bool.false_beq); repeat' (with_reducible first | refine nY ?_ | (refine mX ?_; try simp only [go_sem, qH]) | refine kD ?_ | (apply rE [3,4,9,10] [] [0,1,2] [0,1,2] ((.c 3 [] [0] (.c 4 [5,6,7,8] [5,6,7,8] (.c 9 [] [5,6,7,8] (.c 10 [11,12] [7,8,11,12] .n .n) .n) (.c 9 [] [0] (.c 4 [5,6,7,8] [5,6,7,8] (.c 10 [11,12] [7,8,11,12] .n .n) .n) .n)) (.c 9 [] [0,1,2] (.c 3 [] [0] (.c 4 [5,6,7,8] [5,6,7,8] (.c 10 [11,12] [7,8,11,12] .n .n) .n) .n) .n))) (by simp only [go_sem]; rfl) (by simp only [go_sem]; rfl) (by simp only [go_sem]; rfl) (by decide +kernel); (focus simp only [go_sem]; done)) | exact bU | refine bF (uX ?_) ?_ | refine bG (aX ?_) ?_ | refine bH (aX ?_) ?_ | exact bE | exact oH | exact uB | refine rD ?_ | refine vR hcl ?_ | refine vG hcl ?_ | refine vI hdl ?_ | refine vJ hdl ?_ | refine cP hal ?_ | refine cP hul ?_ | refine cP hi2 ?_ | refine aO ?_ | fail)
    cases e4 : isL (jH c.fStore (wtL c u n id true k)) c.fDirs u n id
    ·simp only [Bool.false_beq, Bool.true_beq, Bool.not_false, Bool.not_true]
     have hn : wt2 c u n id true (k + 1) = true := by rw [a1g, hk2]; simp [rJ, e4]
     have q0 := @Bool.true_beq; have q1 := @Bool.false_beq; refine fI ?_
     refine aC (k + 1) ?_ ?_ ?_
     ·simp only [go_sem]; try simp
     ·exact ⟨by omega, hn⟩
     ·omega
    ·simp only [Bool.false_beq, Bool.true_beq, Bool.not_false, Bool.not_true]
     have hb : wt2 c u n id true (wtE c u n id true).fSet.length = false := a7K h1 (show (!rJ c u n id true k) = false by simp [rJ, e4])
     have e : wtB c u n id true = false := by simp [wtB, hb]
     have q0 := @Bool.true_beq; have q1 := @Bool.false_beq; refine jZ (gL c (by omega)) ?_
     exact aA ⟨⟨_, rfl, by simp only [go_sem, wtC, wtA, e, Bool.false_eq_true, if_false, List.map_nil]; try simp⟩, by simp [aU]⟩
   ·simp only [decide_eq_false_iff_not, Int.ofNat_lt, List.length_map] at h1
    have ek : k = (wtE c u n id true).fSet.length := by omega
    subst ek
    have e : wtB c u n id true = true := by simp [wtB, g0, g5, hk2]
    have qH := trivial; repeat' (with_reducible first | refine nY ?_ | (refine mX ?_; try simp only [go_sem]) | refine kD ?_ | (apply rE [3] [] [0,1,2] [0,1,2] ((.c 3 [4,5] [1,2,4,5] .n .n)) (by simp only [go_sem]; rfl) (by simp only [go_sem]; rfl) (by simp only [go_sem]; rfl) (by decide +kernel); (focus simp only [go_sem]; done)) | exact bU | refine bF (uX ?_) ?_ | refine bG (aX ?_) ?_ | refine bH (aX ?_) ?_ | exact bE | exact oH | (refine uA ?_; simp only [go_sem]; (repeat' first | omega | refine And.intro ?_ ?_); done) | refine rD ?_ | refine aO ?_ | fail)
    exact aA ⟨⟨_, rfl, by simp only [go_sem, wtC, wtA, e, if_true]; try simp⟩, by simp [aU]⟩
theorem a3J (l : List TAttr) : ∀ r ∈ l.map aJ, r.length = 4 := by intro r hr; obtain ⟨x, _, rfl⟩ := List.mem_map.1 hr; rfl
theorem a1e (c : TCatalog) (u id : Int) (n : ByteArray) (b : Bool) (h : wCatalog c ≤ 1048576) : FnC Tryz.prog 71 [bZ c, oi u, os n, oi id, ob b] (.t [(true, (bZ (wtC c u n id b)).cells), (false, [.d (.sl ((wtA c u n id b).map aJ))]), (false, [.d (bv (wtB c u n id b))])]) := by
 have hc : wCatalog c = aL c.fStore + aY c.fDirs + aG c.fResults := rfl
 have hb : aL c.fStore = aN c.fStore.fSchema + cZ c.fStore.fFiles := rfl
 have hfw := vU id c.fStore.fFiles
 have hvw := b2s c.fStore u
 have hsw := vU id (vis c.fStore u).fFiles
 have hvb : aL (vis c.fStore u) = aN (vis c.fStore u).fSchema + cZ (vis c.fStore u).fFiles := rfl
 have hdw := b2o c.fDirs n
 have hdb : wDir (iT c.fDirs n) = (iT c.fDirs n).fName.size + bK (iT c.fDirs n).fQuery := rfl
 have hew := a9m c.fStore c.fDirs u
 have hlf := b1v c u id (by omega)
 refine ent Tryz.func71 rfl Tryz.call71 rfl (fun C => ?_); simp only [go_sem, st0, Tryz.ntmps71]
 cases g1 : (decide (0 ≤ ixF id c.fStore.fFiles) && (canW (dJ id c.fStore.fFiles) u && curB c))
 ·rw [g1] at hlf
  have e : wtB c u n id b = false := by
   have e0 : wt0 c u n id = false := by
    unfold wt0 wtF
    revert g1
    generalize curB c = x1
    generalize decide (0 ≤ ixF id c.fStore.fFiles) = x2
    generalize canW (dJ id c.fStore.fFiles) u = x3
    cases x1 <;> cases x2 <;> cases x3 <;> simp
   simp [wtB, e0]
  refine c0i (nO c (by omega)) hlf (nW c.fDirs n (by omega)) (oM c.fStore c.fDirs u (by omega) (by omega)) ?_
  first | refine aK (Sees.frz 5 rfl) ?_ | refine aK (Sees.frz 7 rfl) ?_ | refine aK (Sees.frz 8 rfl) ?_ | refine aK (Sees.frz 11 rfl) ?_
  simp only [go_sem]
  exact aA ⟨⟨_, rfl, by simp only [go_sem, wtC, wtA, e, Bool.false_eq_true, if_false, List.map_nil]; try simp⟩, by simp [aU]⟩
 rw [g1] at hlf
 cases g4 : a6b c.fDirs n
 ·have e : wtB c u n id b = false := by simp [wtB, wt0, g4]
  have q0 := @g4; refine b8r (nO c (by omega)) hlf (nW c.fDirs n (by omega)) (oM c.fStore c.fDirs u (by omega) (by omega)) ?_
  first | refine aK (Sees.frz 5 rfl) ?_ | refine aK (Sees.frz 7 rfl) ?_ | refine aK (Sees.frz 8 rfl) ?_ | refine aK (Sees.frz 11 rfl) ?_
  simp only [go_sem]
  exact aA ⟨⟨_, rfl, by simp only [go_sem, wtC, wtA, e, Bool.false_eq_true, if_false, List.map_nil]; try simp⟩, by simp [aU]⟩
 have g0 : wt0 c u n id = true := by
  unfold wt0 wtF
  rw [g4]
  revert g1
  generalize curB c = x1
  generalize decide (0 ≤ ixF id c.fStore.fFiles) = x2
  generalize canW (dJ id c.fStore.fFiles) u = x3
  cases x1 <;> cases x2 <;> cases x3 <;> simp
 have hEw := a9l c u n id b
 have hGw := b2m (wtF c id) (wtE c u n id b)
 have hvis := a2J c.fStore u (by omega)
 have hseen := iG (vis c.fStore u) id (by omega)
 have hnot := a2B (iT c.fDirs n).fQuery (dJ id (vis c.fStore u).fFiles) (evU c.fStore c.fDirs u) (by omega) (by omega) (by omega)
 cases b
 ·have hG : wtG c u n id false = kN (wtF c id) (wtE c u n id false) := rfl
  have hno : FnC Tryz.prog 133 [.o (.d (.sl ((iT c.fDirs n).fQuery.map aT))), bC (dJ id (vis c.fStore u).fFiles), .o (.d (.sl ((evU c.fStore c.fDirs u).map aH)))] (gT (wtE c u n id false)) := hnot
  have happ : FnC Tryz.prog 135 [bC (dJ id c.fStore.fFiles), gT (wtE c u n id false)] (bC (wtG c u n id false)) := kX (wtF c id) (wtE c u n id false) (by unfold wtF; omega)
  have hup := a0c c (wtG c u n id false) (by rw [hG]; unfold wtF at hGw ⊢; omega)
  have q0 := @g4; have q1 := @Bool.true_beq; have q2 := @Bool.false_beq; refine c0k (nO c (by omega)) hlf (nW c.fDirs n (by omega)) (oM c.fStore c.fDirs u (by omega) (by omega)) hvis hseen hno ?_
  cases e1 : (wtE c u n id false).fOK
  ·skip
   have e : wtB c u n id false = false := by simp [wtB, wt1, e1]
   try simp only [go_sem, e1]
   have q0 := @Bool.true_beq; have q1 := @Bool.false_beq; refine fI ?_
   first | refine aK (Sees.frz 5 rfl) ?_ | refine aK (Sees.frz 7 rfl) ?_ | refine aK (Sees.frz 8 rfl) ?_ | refine aK (Sees.frz 11 rfl) ?_
   simp only [go_sem]
   exact aA ⟨⟨_, rfl, by simp only [go_sem, wtC, wtA, e, Bool.false_eq_true, if_false, List.map_nil]; try simp⟩, by simp [aU]⟩
  have hge : gT (wtE c u n id false) = .g [.d (bv true), .d (.sl ((wtE c u n id false).fSet.map aJ))] := by unfold gT; rw [e1]
  rw [hge] at happ
  try simp only [go_sem, e1]
  have qH := aI @Bool.true_beq @Bool.false_beq; repeat' (with_reducible first | refine nY ?_ | (refine mX ?_; try simp only [go_sem, qH]) | refine kD ?_ | (apply rE [3,4,9,10] [] [0,1,2] [0,1,2] ((.c 3 [] [0] (.c 4 [5,6,7,8] [5,6,7,8] (.c 9 [] [5,6,7,8] (.c 10 [11,12] [7,8,11,12] .n .n) .n) (.c 9 [] [0] (.c 4 [5,6,7,8] [5,6,7,8] (.c 10 [11,12] [7,8,11,12] .n .n) .n) .n)) (.c 9 [] [0,1,2] (.c 3 [] [0] (.c 4 [5,6,7,8] [5,6,7,8] (.c 10 [11,12] [7,8,11,12] .n .n) .n) .n) .n))) (by simp only [go_sem]; rfl) (by simp only [go_sem]; rfl) (by simp only [go_sem]; rfl) (by decide +kernel); (focus simp only [go_sem]; done)) | exact bU | refine bF (uX ?_) ?_ | refine bG (aX ?_) ?_ | refine bH (aX ?_) ?_ | exact bE | exact oH | exact uB | refine rD ?_ | refine cP happ ?_ | refine cP hup ?_ | refine aO ?_ | fail)
  cases e2 : mK c (wtG c u n id false)
  ·skip
   have e : wtB c u n id false = false := by simp [wtB, wt1, e2]
   try simp only [go_sem, e2]
   have q0 := @Bool.true_beq; have q1 := @Bool.false_beq; refine fI ?_
   first | refine aK (Sees.frz 5 rfl) ?_ | refine aK (Sees.frz 7 rfl) ?_ | refine aK (Sees.frz 8 rfl) ?_ | refine aK (Sees.frz 11 rfl) ?_
   simp only [go_sem]
   exact aA ⟨⟨_, rfl, by simp only [go_sem, wtC, wtA, e, Bool.false_eq_true, if_false, List.map_nil]; try simp⟩, by simp [aU]⟩
  have hil : FnC Tryz.prog 136 [cB (mW c (wtG c u n id false)).fStore, .o (.d (.sl ((mW c (wtG c u n id false)).fDirs.map aS))), oi u, os n, oi id] (ob (isL (jH c.fStore (wtG c u n id false)) c.fDirs u n id)) := by
   rw [(jQ e2).1, (jQ e2).2]
   have hrw := qO c.fStore (wtG c u n id false)
   exact vS _ _ u n id (by rw [hG] at hrw ⊢; unfold wtF at hGw hrw ⊢; omega) (by omega)
  try simp only [go_sem, e2]
  have q0 := @Bool.true_beq; have q1 := @Bool.false_beq; refine jZ hil ?_
  cases e3 : isL (jH c.fStore (wtG c u n id false)) c.fDirs u n id
  case true =>
   have e : wtB c u n id false = false := by simp [wtB, wt1, e3]
   simp only [Bool.false_beq, Bool.true_beq, Bool.not_false, Bool.not_true]
   have q0 := @Bool.true_beq; have q1 := @Bool.false_beq; refine fI ?_
   first | refine aK (Sees.frz 5 rfl) ?_ | refine aK (Sees.frz 7 rfl) ?_ | refine aK (Sees.frz 8 rfl) ?_ | refine aK (Sees.frz 11 rfl) ?_
   simp only [go_sem]
   exact aA ⟨⟨_, rfl, by simp only [go_sem, wtC, wtA, e, Bool.false_eq_true, if_false, List.map_nil]; try simp⟩, by simp [aU]⟩
  have g5 : wt1 c u n id false = true := by simp [wt1, e1, e2, e3]
  simp only [Bool.false_beq, Bool.true_beq, Bool.not_false, Bool.not_true]
  have q0 := @Bool.true_beq; have q1 := @Bool.false_beq; refine fI ?_
  have hSw : aV (wtE c u n id false).fSet ≤ 8192 := hEw
  have hSl : (wtE c u n id false).fSet.length ≤ 8192 := by unfold aV at hSw; omega
  refine aM (α := Nat) (fun k => [(26, oi k)]) (fun _ => []) (fun k => k ≤ (wtE c u n id false).fSet.length ∧ wt2 c u n id false k = true) (fun k => (wtE c u n id false).fSet.length - k) 0 (fun _ => ?_) ?_ ?_ (fun k hk => ?_)
  ·simp only [go_sem]
  ·simp only [go_sem]; try simp
  ·exact ⟨Nat.zero_le _, rfl⟩
  ·obtain ⟨hk1, hk2⟩ := hk
   simp only [go_sem]
   refine aD ?_
   refine cnd rfl (fun h1 => ?_) (fun h1 => ?_)
   ·simp only [decide_eq_true_eq, Int.ofNat_lt, List.length_map] at h1
    have hLw : wFile (wtL c u n id false k) ≤ wFile (dJ id c.fStore.fFiles) + 8192 := b2n c u n id false k
    have hlw : gG (xQ (wtE c u n id false) k) ≤ 8192 := a1h c u n id false k
    have hyB := a1f g0 e2 k
    have hzB : iP c.fStore (wtL c u n id false k) = true := by unfold mK at hyB; rw [Bool.and_eq_true] at hyB; exact hyB.2
    have hpn : ((k : Int) + 1).toNat = k + 1 := by omega
    have hT : List.take (wtE c u n id false).fSet.length (List.map aJ (wtE c u n id false).fSet) = List.map aJ (wtE c u n id false).fSet := List.take_of_length_le (by simp)
    have hTk : List.take k (List.map aJ (wtE c u n id false).fSet) = ((wtE c u n id false).fSet.take k).map aJ := List.map_take.symm
    have hDp : List.drop (k + 1) (List.map aJ (wtE c u n id false).fSet) = ((wtE c u n id false).fSet.drop (k + 1)).map aJ := List.map_drop.symm
    have hcm : (kY k (wtE c u n id false).fSet).map aJ = ((wtE c u n id false).fSet.take k).map aJ ++ ((wtE c u n id false).fSet.drop (k + 1)).map aJ := by simp [kY]
    have hal : FnC Tryz.prog 135 [bC (dJ id c.fStore.fFiles), .g [.d (bv true), .d (.sl (((wtE c u n id false).fSet.take k).map aJ ++ ((wtE c u n id false).fSet.drop (k + 1)).map aJ))]] (bC (wtL c u n id false k)) := by rw [← hcm]; exact kX (wtF c id) (xQ (wtE c u n id false) k) (by unfold wtF; omega)
    have hul := jR c.fStore (wtL c u n id false k) (by omega) (by omega)
    rw [hzB] at hul
    have hrl := qO c.fStore (wtL c u n id false k)
    have hi2 := vS (jH c.fStore (wtL c u n id false k)) c.fDirs u n id (by omega) (by omega)
    have qH := aI @h1 (aI @hpn (aI @hT (aI @hTk (aI @hDp (aI @wV (aI @wW (aI @a0Z (aI @Int.toNat_natCast (aI @b3w (aI @Bool.true_beq @Bool.false_beq)))))))))); repeat' (with_reducible first | refine nY ?_ | (refine mX ?_; try simp only [go_sem, qH]) | refine kD ?_ | (apply rE [0,5,11,13,14] [] [1,2,3,4,6,7,8,9,10] [1,2,3,4,6,7,8,9,10] ((.c 0 [] [1,2,3,4,6,7,8,9,10] (.c 5 [] [6,7,8,9,10] (.c 11 [12] [12] (.c 13 [] [12] (.c 14 [] [] .n .n) .n) (.c 13 [] [6,7,8,9,10] (.c 11 [12] [12] (.c 14 [] [] .n .n) .n) .n)) (.c 13 [] [1,2,3,4,6,7,8,9,10] (.c 5 [] [6,7,8,9,10] (.c 11 [12] [12] (.c 14 [] [] .n .n) .n) .n) .n)) (.c 13 [] [1,2,3,4,6,7,8,9,10] (.c 0 [] [1,2,3,4,6,7,8,9,10] (.c 5 [] [6,7,8,9,10] (.c 11 [12] [12] (.c 14 [] [] .n .n) .n) .n) .n) .n))) (by simp only [go_sem]; rfl) (by simp only [go_sem]; rfl) (by simp only [go_sem]; rfl) (by decide +kernel); (focus simp only [go_sem]; done)) | (apply rE [4,5,9,10] [] [0,1,2,3] [0,1,2,3] ((.c 4 [] [0,1] (.c 5 [6,7,8] [6,7,8] (.c 9 [] [6,7,8] (.c 10 [11] [8,11] .n .n) .n) (.c 9 [] [0,1] (.c 5 [6,7,8] [6,7,8] (.c 10 [11] [8,11] .n .n) .n) .n)) (.c 9 [] [0,1,2,3] (.c 4 [] [0,1] (.c 5 [6,7,8] [6,7,8] (.c 10 [11] [8,11] .n .n) .n) .n) .n))) (by simp only [go_sem]; rfl) (by simp only [go_sem]; rfl) (by simp only [go_sem]; rfl) (by decide +kernel); (focus simp only [go_sem]; done)) | exact bU | refine bF (uX ?_) ?_ | refine bG (aX ?_) ?_ | refine bH (aX ?_) ?_ | exact bE | (refine dB [(8, 9)] (by simp only [go_sem]; rfl) ?_; exact rfl) | exact oH | (refine uA ?_; simp only [go_sem, qH]; (repeat' first | omega | exact a3J _ | refine And.intro ?_ ?_); done) | refine rD ?_ | refine And.intro (a3J _) ?_ | refine cP hal ?_ | refine cP hul ?_ | refine cP hi2 ?_ | refine aO ?_ | fail)
    cases e4 : isL (jH c.fStore (wtL c u n id false k)) c.fDirs u n id
    ·simp only [Bool.false_beq, Bool.true_beq, Bool.not_false, Bool.not_true]
     have hb : wt2 c u n id false (wtE c u n id false).fSet.length = false := a7K h1 (show (!rJ c u n id false k) = false by simp [rJ, e4])
     have e : wtB c u n id false = false := by simp [wtB, hb]
     have q0 := @Bool.true_beq; have q1 := @Bool.false_beq; refine fI ?_
     first | refine aK (Sees.frz 5 rfl) ?_ | refine aK (Sees.frz 7 rfl) ?_ | refine aK (Sees.frz 8 rfl) ?_ | refine aK (Sees.frz 11 rfl) ?_
     simp only [go_sem]
     exact aA ⟨⟨_, rfl, by simp only [go_sem, wtC, wtA, e, Bool.false_eq_true, if_false, List.map_nil]; try simp⟩, by simp [aU]⟩
    ·simp only [Bool.false_beq, Bool.true_beq, Bool.not_false, Bool.not_true]
     have hn : wt2 c u n id false (k + 1) = true := by rw [a1g, hk2]; simp [rJ, e4]
     have q0 := @Bool.true_beq; have q1 := @Bool.false_beq; refine fI ?_
     refine aC (k + 1) ?_ ?_ ?_
     ·simp only [go_sem]; try simp
     ·exact ⟨by omega, hn⟩
     ·omega
   ·simp only [decide_eq_false_iff_not, Int.ofNat_lt, List.length_map] at h1
    have ek : k = (wtE c u n id false).fSet.length := by omega
    subst ek
    have e : wtB c u n id false = true := by simp [wtB, g0, g5, hk2]
    have qH := trivial; repeat' (with_reducible first | refine nY ?_ | (refine mX ?_; try simp only [go_sem]) | refine kD ?_ | (apply rE [1,4,5] [] [0,2,3] [0,2,3] ((.c 1 [] [0,2,3] (.c 4 [] [0] (.c 5 [6,7] [6,7] .n .n) .n) .n)) (by simp only [go_sem]; rfl) (by simp only [go_sem]; rfl) (by simp only [go_sem]; rfl) (by decide +kernel); (focus simp only [go_sem]; done)) | exact bU | refine bF (uX ?_) ?_ | refine bG (aX ?_) ?_ | refine bH (aX ?_) ?_ | exact bE | exact oH | (refine uA ?_; simp only [go_sem]; (repeat' first | omega | refine And.intro ?_ ?_); done) | refine rD ?_ | refine aO ?_ | fail)
    first | refine aK (Sees.frz 5 rfl) ?_ | refine aK (Sees.frz 7 rfl) ?_ | refine aK (Sees.frz 8 rfl) ?_ | refine aK (Sees.frz 11 rfl) ?_
    simp only [go_sem]
    exact aA ⟨⟨_, rfl, by simp only [go_sem, wtC, wtA, e, if_true]; try simp⟩, by simp [aU]⟩
 ·have hG : wtG c u n id true = kN (wtF c id) (wtE c u n id true) := rfl
  have hyes : FnC Tryz.prog 134 [.o (.d (.sl ((iT c.fDirs n).fQuery.map aT))), bC (dJ id (vis c.fStore u).fFiles), .o (.d (.sl ((evU c.fStore c.fDirs u).map aH)))] (gT (wtE c u n id true)) := a5T (iT c.fDirs n).fQuery (dJ id (vis c.fStore u).fFiles) (evU c.fStore c.fDirs u) (by omega) (by omega) (by omega)
  have happ : FnC Tryz.prog 135 [bC (dJ id c.fStore.fFiles), gT (wtE c u n id true)] (bC (wtG c u n id true)) := kX (wtF c id) (wtE c u n id true) (by unfold wtF; omega)
  have hup := a0c c (wtG c u n id true) (by rw [hG]; unfold wtF at hGw ⊢; omega)
  have qH := aI @g4 (aI @Bool.true_beq @Bool.false_beq); repeat' (with_reducible first | refine nY ?_ | (refine mX ?_; try simp only [go_sem, qH]) | refine kD ?_ | refine rD ?_ | refine cP (nO c (by omega)) ?_ | refine cP hlf ?_ | refine cP (nW c.fDirs n (by omega)) ?_ | refine cP (oM c.fStore c.fDirs u (by omega) (by omega)) ?_ | refine cP hvis ?_ | refine cP hseen ?_ | refine cP hnot ?_ | refine cP hyes ?_ | refine aO ?_ | fail)
  cases e1 : (wtE c u n id true).fOK
  ·skip
   have e : wtB c u n id true = false := by simp [wtB, wt1, e1]
   try simp only [go_sem, e1]
   have q0 := @Bool.true_beq; have q1 := @Bool.false_beq; refine fI ?_
   first | refine aK (Sees.frz 5 rfl) ?_ | refine aK (Sees.frz 7 rfl) ?_ | refine aK (Sees.frz 8 rfl) ?_ | refine aK (Sees.frz 11 rfl) ?_
   simp only [go_sem]
   exact aA ⟨⟨_, rfl, by simp only [go_sem, wtC, wtA, e, Bool.false_eq_true, if_false, List.map_nil]; try simp⟩, by simp [aU]⟩
  have hge : gT (wtE c u n id true) = .g [.d (bv true), .d (.sl ((wtE c u n id true).fSet.map aJ))] := by unfold gT; rw [e1]
  rw [hge] at happ
  try simp only [go_sem, e1]
  have qH := aI @Bool.true_beq @Bool.false_beq; repeat' (with_reducible first | refine nY ?_ | (refine mX ?_; try simp only [go_sem, qH]) | refine kD ?_ | (apply rE [3,4,9,10] [] [0,1,2] [0,1,2] ((.c 3 [] [0] (.c 4 [5,6,7,8] [5,6,7,8] (.c 9 [] [5,6,7,8] (.c 10 [11,12] [7,8,11,12] .n .n) .n) (.c 9 [] [0] (.c 4 [5,6,7,8] [5,6,7,8] (.c 10 [11,12] [7,8,11,12] .n .n) .n) .n)) (.c 9 [] [0,1,2] (.c 3 [] [0] (.c 4 [5,6,7,8] [5,6,7,8] (.c 10 [11,12] [7,8,11,12] .n .n) .n) .n) .n))) (by simp only [go_sem]; rfl) (by simp only [go_sem]; rfl) (by simp only [go_sem]; rfl) (by decide +kernel); (focus simp only [go_sem]; done)) | exact bU | refine bF (uX ?_) ?_ | refine bG (aX ?_) ?_ | refine bH (aX ?_) ?_ | exact bE | exact oH | exact uB | refine rD ?_ | refine cP happ ?_ | refine cP hup ?_ | refine aO ?_ | fail)
  cases e2 : mK c (wtG c u n id true)
  ·skip
   have e : wtB c u n id true = false := by simp [wtB, wt1, e2]
   try simp only [go_sem, e2]
   have q0 := @Bool.true_beq; have q1 := @Bool.false_beq; refine fI ?_
   first | refine aK (Sees.frz 5 rfl) ?_ | refine aK (Sees.frz 7 rfl) ?_ | refine aK (Sees.frz 8 rfl) ?_ | refine aK (Sees.frz 11 rfl) ?_
   simp only [go_sem]
   exact aA ⟨⟨_, rfl, by simp only [go_sem, wtC, wtA, e, Bool.false_eq_true, if_false, List.map_nil]; try simp⟩, by simp [aU]⟩
  have hil : FnC Tryz.prog 136 [cB (mW c (wtG c u n id true)).fStore, .o (.d (.sl ((mW c (wtG c u n id true)).fDirs.map aS))), oi u, os n, oi id] (ob (isL (jH c.fStore (wtG c u n id true)) c.fDirs u n id)) := by
   rw [(jQ e2).1, (jQ e2).2]
   have hrw := qO c.fStore (wtG c u n id true)
   exact vS _ _ u n id (by rw [hG] at hrw ⊢; unfold wtF at hGw hrw ⊢; omega) (by omega)
  try simp only [go_sem, e2]
  have q0 := @Bool.true_beq; have q1 := @Bool.false_beq; refine jZ hil ?_
  cases e3 : isL (jH c.fStore (wtG c u n id true)) c.fDirs u n id
  case false =>
   have e : wtB c u n id true = false := by simp [wtB, wt1, e3]
   simp only [Bool.false_beq, Bool.true_beq, Bool.not_false, Bool.not_true]
   have q0 := @Bool.true_beq; have q1 := @Bool.false_beq; refine fI ?_
   first | refine aK (Sees.frz 5 rfl) ?_ | refine aK (Sees.frz 7 rfl) ?_ | refine aK (Sees.frz 8 rfl) ?_ | refine aK (Sees.frz 11 rfl) ?_
   simp only [go_sem]
   exact aA ⟨⟨_, rfl, by simp only [go_sem, wtC, wtA, e, Bool.false_eq_true, if_false, List.map_nil]; try simp⟩, by simp [aU]⟩
  have g5 : wt1 c u n id true = true := by simp [wt1, e1, e2, e3]
  simp only [Bool.false_beq, Bool.true_beq, Bool.not_false, Bool.not_true]
  have q0 := @Bool.true_beq; have q1 := @Bool.false_beq; refine fI ?_
  have hSw : aV (wtE c u n id true).fSet ≤ 8192 := hEw
  have hSl : (wtE c u n id true).fSet.length ≤ 8192 := by unfold aV at hSw; omega
  refine aM (α := Nat) (fun k => [(26, oi k)]) (fun _ => []) (fun k => k ≤ (wtE c u n id true).fSet.length ∧ wt2 c u n id true k = true) (fun k => (wtE c u n id true).fSet.length - k) 0 (fun _ => ?_) ?_ ?_ (fun k hk => ?_)
  ·simp only [go_sem]
  ·simp only [go_sem]; try simp
  ·exact ⟨Nat.zero_le _, rfl⟩
  ·obtain ⟨hk1, hk2⟩ := hk
   simp only [go_sem]
   refine aD ?_
   refine cnd rfl (fun h1 => ?_) (fun h1 => ?_)
   ·simp only [decide_eq_true_eq, Int.ofNat_lt, List.length_map] at h1
    have hLw : wFile (wtL c u n id true k) ≤ wFile (dJ id c.fStore.fFiles) + 8192 := b2n c u n id true k
    have hlw : gG (xQ (wtE c u n id true) k) ≤ 8192 := a1h c u n id true k
    have hyB := a1f g0 e2 k
    have hzB : iP c.fStore (wtL c u n id true k) = true := by unfold mK at hyB; rw [Bool.and_eq_true] at hyB; exact hyB.2
    have hpn : ((k : Int) + 1).toNat = k + 1 := by omega
    have hT : List.take (wtE c u n id true).fSet.length (List.map aJ (wtE c u n id true).fSet) = List.map aJ (wtE c u n id true).fSet := List.take_of_length_le (by simp)
    have hTk : List.take k (List.map aJ (wtE c u n id true).fSet) = ((wtE c u n id true).fSet.take k).map aJ := List.map_take.symm
    have hDp : List.drop (k + 1) (List.map aJ (wtE c u n id true).fSet) = ((wtE c u n id true).fSet.drop (k + 1)).map aJ := List.map_drop.symm
    have hcm : (kY k (wtE c u n id true).fSet).map aJ = ((wtE c u n id true).fSet.take k).map aJ ++ ((wtE c u n id true).fSet.drop (k + 1)).map aJ := by simp [kY]
    have hal : FnC Tryz.prog 135 [bC (dJ id c.fStore.fFiles), .g [.d (bv true), .d (.sl (((wtE c u n id true).fSet.take k).map aJ ++ ((wtE c u n id true).fSet.drop (k + 1)).map aJ))]] (bC (wtL c u n id true k)) := by rw [← hcm]; exact kX (wtF c id) (xQ (wtE c u n id true) k) (by unfold wtF; omega)
    have hul := jR c.fStore (wtL c u n id true k) (by omega) (by omega)
    rw [hzB] at hul
    have hrl := qO c.fStore (wtL c u n id true k)
    have hi2 := vS (jH c.fStore (wtL c u n id true k)) c.fDirs u n id (by omega) (by omega)
    have qH := aI @h1 (aI @hpn (aI @hT (aI @hTk (aI @hDp (aI @wV (aI @wW (aI @a0Z (aI @Int.toNat_natCast (aI @b3w (aI @Bool.true_beq @Bool.false_beq)))))))))); repeat' (with_reducible first | refine nY ?_ | (refine mX ?_; try simp only [go_sem, qH]) | refine kD ?_ | (apply rE [0,5,11,13,14] [] [1,2,3,4,6,7,8,9,10] [1,2,3,4,6,7,8,9,10] ((.c 0 [] [1,2,3,4,6,7,8,9,10] (.c 5 [] [6,7,8,9,10] (.c 11 [12] [12] (.c 13 [] [12] (.c 14 [] [] .n .n) .n) (.c 13 [] [6,7,8,9,10] (.c 11 [12] [12] (.c 14 [] [] .n .n) .n) .n)) (.c 13 [] [1,2,3,4,6,7,8,9,10] (.c 5 [] [6,7,8,9,10] (.c 11 [12] [12] (.c 14 [] [] .n .n) .n) .n) .n)) (.c 13 [] [1,2,3,4,6,7,8,9,10] (.c 0 [] [1,2,3,4,6,7,8,9,10] (.c 5 [] [6,7,8,9,10] (.c 11 [12] [12] (.c 14 [] [] .n .n) .n) .n) .n) .n))) (by simp only [go_sem]; rfl) (by simp only [go_sem]; rfl) (by simp only [go_sem]; rfl) (by decide +kernel); (focus simp only [go_sem]; done)) | (apply rE [4,5,9,10] [] [0,1,2,3] [0,1,2,3] ((.c 4 [] [0,1] (.c 5 [6,7,8] [6,7,8] (.c 9 [] [6,7,8] (.c 10 [11] [8,11] .n .n) .n) (.c 9 [] [0,1] (.c 5 [6,7,8] [6,7,8] (.c 10 [11] [8,11] .n .n) .n) .n)) (.c 9 [] [0,1,2,3] (.c 4 [] [0,1] (.c 5 [6,7,8] [6,7,8] (.c 10 [11] [8,11] .n .n) .n) .n) .n))) (by simp only [go_sem]; rfl) (by simp only [go_sem]; rfl) (by simp only [go_sem]; rfl) (by decide +kernel); (focus simp only [go_sem]; done)) | exact bU | refine bF (uX ?_) ?_ | refine bG (aX ?_) ?_ | refine bH (aX ?_) ?_ | exact bE | (refine dB [(8, 9)] (by simp only [go_sem]; rfl) ?_; exact rfl) | exact oH | (refine uA ?_; simp only [go_sem, qH]; (repeat' first | omega | exact a3J _ | refine And.intro ?_ ?_); done) | refine rD ?_ | refine And.intro (a3J _) ?_ | refine cP hal ?_ | refine cP hul ?_ | refine cP hi2 ?_ | refine aO ?_ | fail)
    cases e4 : isL (jH c.fStore (wtL c u n id true k)) c.fDirs u n id
    ·simp only [Bool.false_beq, Bool.true_beq, Bool.not_false, Bool.not_true]
     have hn : wt2 c u n id true (k + 1) = true := by rw [a1g, hk2]; simp [rJ, e4]
     have q0 := @Bool.true_beq; have q1 := @Bool.false_beq; refine fI ?_
     refine aC (k + 1) ?_ ?_ ?_
     ·simp only [go_sem]; try simp
     ·exact ⟨by omega, hn⟩
     ·omega
    ·simp only [Bool.false_beq, Bool.true_beq, Bool.not_false, Bool.not_true]
     have hb : wt2 c u n id true (wtE c u n id true).fSet.length = false := a7K h1 (show (!rJ c u n id true k) = false by simp [rJ, e4])
     have e : wtB c u n id true = false := by simp [wtB, hb]
     have q0 := @Bool.true_beq; have q1 := @Bool.false_beq; refine fI ?_
     first | refine aK (Sees.frz 5 rfl) ?_ | refine aK (Sees.frz 7 rfl) ?_ | refine aK (Sees.frz 8 rfl) ?_ | refine aK (Sees.frz 11 rfl) ?_
     simp only [go_sem]
     exact aA ⟨⟨_, rfl, by simp only [go_sem, wtC, wtA, e, Bool.false_eq_true, if_false, List.map_nil]; try simp⟩, by simp [aU]⟩
   ·simp only [decide_eq_false_iff_not, Int.ofNat_lt, List.length_map] at h1
    have ek : k = (wtE c u n id true).fSet.length := by omega
    subst ek
    have e : wtB c u n id true = true := by simp [wtB, g0, g5, hk2]
    have qH := trivial; repeat' (with_reducible first | refine nY ?_ | (refine mX ?_; try simp only [go_sem]) | refine kD ?_ | (apply rE [1,4,5] [] [0,2,3] [0,2,3] ((.c 1 [] [0,2,3] (.c 4 [] [0] (.c 5 [6,7] [6,7] .n .n) .n) .n)) (by simp only [go_sem]; rfl) (by simp only [go_sem]; rfl) (by simp only [go_sem]; rfl) (by decide +kernel); (focus simp only [go_sem]; done)) | exact bU | refine bF (uX ?_) ?_ | refine bG (aX ?_) ?_ | refine bH (aX ?_) ?_ | exact bE | exact oH | (refine uA ?_; simp only [go_sem]; (repeat' first | omega | refine And.intro ?_ ?_); done) | refine rD ?_ | refine aO ?_ | fail)
    first | refine aK (Sees.frz 5 rfl) ?_ | refine aK (Sees.frz 7 rfl) ?_ | refine aK (Sees.frz 8 rfl) ?_ | refine aK (Sees.frz 11 rfl) ?_
    simp only [go_sem]
    exact aA ⟨⟨_, rfl, by simp only [go_sem, wtC, wtA, e, if_true]; try simp⟩, by simp [aU]⟩
theorem a3s (c : TCatalog) (u id : Int) (n : ByteArray) (h : wCatalog c ≤ 1048576) : FnC Tryz.prog 30 [bZ c, oi u, os n, oi id] (.t [(true, (mG (wtC c u n id true)).cells), (false, [.w 117 4 ((wtA c u n id true).map aJ)]), (false, [.d (bv (wtB c u n id true))])]) := by
 refine ent Tryz.func30 rfl Tryz.call30 rfl (fun C => ?_); simp only [go_sem, st0, Tryz.ntmps30]
 refine fK (a1i c u id n true h) ?_
 exact aA ⟨⟨_, rfl, by simp only [go_sem]; try simp⟩, by simp [aU]⟩
theorem xO (c : TCatalog) (u id : Int) (n : ByteArray) (h : wCatalog c ≤ 1048576) : FnC Tryz.prog 35 [bZ c, oi u, os n, oi id] (.t [(true, (mG (wtC c u n id false)).cells), (false, [.w 117 4 ((wtA c u n id false).map aJ)]), (false, [.d (bv (wtB c u n id false))])]) := by
 refine ent Tryz.func35 rfl Tryz.call35 rfl (fun C => ?_); simp only [go_sem, st0, Tryz.ntmps35]
 refine fK (a1i c u id n false h) ?_
 exact aA ⟨⟨_, rfl, by simp only [go_sem]; try simp⟩, by simp [aU]⟩
theorem a3t (c : TCatalog) (u id : Int) (n : ByteArray) (h : wCatalog c ≤ 1048576) : FnC Tryz.prog 29 [bZ c, oi u, os n, oi id] (.t [(true, (bZ (wtC c u n id true)).cells), (false, [.d (.sl ((wtA c u n id true).map aJ))]), (false, [.d (bv (wtB c u n id true))])]) := by
 refine ent Tryz.func29 rfl Tryz.call29 rfl (fun C => ?_); simp only [go_sem, st0, Tryz.ntmps29]
 refine fK (a1e c u id n true h) ?_
 exact aA ⟨⟨_, rfl, by simp only [go_sem]; try simp⟩, by simp [aU]⟩
theorem xP (c : TCatalog) (u id : Int) (n : ByteArray) (h : wCatalog c ≤ 1048576) : FnC Tryz.prog 34 [bZ c, oi u, os n, oi id] (.t [(true, (bZ (wtC c u n id false)).cells), (false, [.d (.sl ((wtA c u n id false).map aJ))]), (false, [.d (bv (wtB c u n id false))])]) := by
 refine ent Tryz.func34 rfl Tryz.call34 rfl (fun C => ?_); simp only [go_sem, st0, Tryz.ntmps34]
 refine fK (a1e c u id n false h) ?_
 exact aA ⟨⟨_, rfl, by simp only [go_sem]; try simp⟩, by simp [aU]⟩
theorem b5i (c : TCatalog) (u id : Int) (n : ByteArray) (b : Bool) (h : wCatalog c ≤ 1048576) : aL (wtC c u n id b).fStore ≤ 8600000 ∧ aY (wtC c u n id b).fDirs ≤ 8600000 ∧ aG (wtC c u n id b).fResults ≤ 8600000 ∧ aV (wtA c u n id b) ≤ 8600000 := by
 have hc : wCatalog c = aL c.fStore + aY c.fDirs + aG c.fResults := rfl
 have hb : aL c.fStore = aN c.fStore.fSchema + cZ c.fStore.fFiles := rfl
 have hfw := vU id c.fStore.fFiles
 have hEw : aV (wtE c u n id b).fSet ≤ 8192 := a9l c u n id b
 have hEw' := a9l c u n id b
 have hGw := b2m (wtF c id) (wtE c u n id b)
 have hG : wFile (wtG c u n id b) ≤ 1048576 + 8192 := by unfold wtG; unfold wtF at hGw ⊢; omega
 have hu := b9z c (wtG c u n id b) (by omega)
 unfold wtC wtA
 cases wtB c u n id b
 ·exact ⟨by simp only [Bool.false_eq_true, if_false]; omega, by simp only [Bool.false_eq_true, if_false]; omega, by simp only [Bool.false_eq_true, if_false]; omega, by simp [aV, wsum]⟩
 ·exact ⟨by simp only [if_true]; exact hu.1, by simp only [if_true]; exact hu.2.1, by simp only [if_true]; exact hu.2.2.1, by simp only [if_true]; omega⟩
theorem a4p (c : TCatalog) (u : Int) (n : ByteArray) (id : Int) (hfc : pM c) : FnC Tryz.prog 5 [bZ c, oi u, os n, oi id] (ob true) := by
 refine ent Tryz.func5 rfl Tryz.call5 rfl (fun C => ?_); simp only [go_sem, st0, Tryz.ntmps5]
 by_cases gn : (1048576 : Int) < (n.size : Int)
 ·have q0 := @gn; have q1 := @decide_true; refine fI ?_
  exact aA ⟨⟨_, rfl, by simp only [go_sem]⟩, trivial⟩
 have z1 := a1n c 1048576 (by omega) hfc
 by_cases h1 : cO 1048576 (wCatalog c) < 0
 ·have q0 := @gn; have q1 := @h1; refine jZ z1 ?_
  exact aA ⟨⟨_, rfl, by simp only [go_sem]⟩, trivial⟩
 have s1 : wCatalog c ≤ 1048576 := by have := a9w h1; omega
 have e1 : cO 1048576 (wCatalog c) = 1048576 - (wCatalog c : Nat) := bI (by omega)
 rw [e1] at z1 h1
 have b1c : aL c.fStore = aN c.fStore.fSchema + cZ c.fStore.fFiles := rfl
 have b2c : cZ c.fStore.fFiles = c.fStore.fFiles.length + wsum wFile c.fStore.fFiles := rfl
 have b3c : c.fStore.fSchema.length ≤ aN c.fStore.fSchema := by unfold aN; omega
 have b4c : aY c.fDirs = c.fDirs.length + wsum wDir c.fDirs := rfl
 have b5c : aG c.fResults = c.fResults.length + wsum wResult c.fResults := rfl
 have b6c := zN c.fStore.fSchema
 have b7c := a1A c.fStore.fFiles
 have b8c := a3M c.fDirs
 have b9c := wH c.fResults
 have b0c : wCatalog c = aL c.fStore + aY c.fDirs + aG c.fResults := rfl
 have hi := a3s c u id n (by omega)
 have hk := a3t c u id n (by omega)
 have hC := b5i c u id n true (by omega)
 generalize (wtC c u n id true) = X at *
 generalize (wtA c u n id true) = Y at *
 generalize (wtB c u n id true) = B at *
 obtain ⟨q1, q2, q3, q4⟩ := hC
 have b1X : aL X.fStore = aN X.fStore.fSchema + cZ X.fStore.fFiles := rfl
 have b2X : cZ X.fStore.fFiles = X.fStore.fFiles.length + wsum wFile X.fStore.fFiles := rfl
 have b3X : X.fStore.fSchema.length ≤ aN X.fStore.fSchema := by unfold aN; omega
 have b4X : aY X.fDirs = X.fDirs.length + wsum wDir X.fDirs := rfl
 have b5X : aG X.fResults = X.fResults.length + wsum wResult X.fResults := rfl
 have b6X := zN X.fStore.fSchema
 have b7X := a1A X.fStore.fFiles
 have b8X := a3M X.fDirs
 have b9X := wH X.fResults
 have b0X : wCatalog X = aL X.fStore + aY X.fDirs + aG X.fResults := rfl
 have hX : wCatalog X ≤ 67108864 := by unfold wCatalog; omega
 have k1 : ¬ ((1 : Int) + (csum cnField c.fStore.fSchema : Nat) + (csum cnFile c.fStore.fFiles : Nat) + (csum cnDir c.fDirs : Nat) + (csum cnResult c.fResults : Nat) < 0) := by omega
 have k2 : ¬ ((1 : Int) + (csum cnField X.fStore.fSchema : Nat) + (csum cnFile X.fStore.fFiles : Nat) + (csum cnDir X.fDirs : Nat) + (csum cnResult X.fResults : Nat) < 0) := by omega
 have y1 := a5b Y
 have y2 : Y.length ≤ aV Y := by unfold aV; omega
 have k3 : ¬ ((1 : Int) + (csum cnField X.fStore.fSchema : Nat) + (csum cnFile X.fStore.fFiles : Nat) + (csum cnDir X.fDirs : Nat) + (csum cnResult X.fResults : Nat) + (csum cnAttr Y : Nat) < 0) := by omega
 cases B
 all_goals
  have q0 := @gn; have q1 := @h1; have q2 := @k1; have q3 := @k2; have q4 := @k3; have q5 := @Bool.true_beq; have q6 := @Bool.false_beq; refine a5Y z1 ?_
  repeat' (with_reducible first | refine nX ?_ | (refine mX ?_; try simp only [go_sem]) | refine kD ?_ | refine cP (nZ c (by omega)) ?_ | refine cP hk ?_ | refine aO ?_ | fail)
  have qH := aI @gn (aI @h1 (aI @k1 (aI @k2 (aI @k3 (aI @Bool.true_beq @Bool.false_beq))))); repeat' (with_reducible first | refine nY ?_ | (refine mX ?_; try simp only [go_sem, qH]) | refine kD ?_ | refine rD ?_ | refine vO (mH c (by omega)) ?_ | refine vQ (mH c (by omega)) ?_ | refine vO hi ?_ | refine vQ hi ?_ | refine vO (iF X hX) ?_ | refine vQ (iF X hX) ?_ | refine vO (qP Y (by omega)) ?_ | refine vQ (qP Y (by omega)) ?_ | refine vO (iF c (by omega)) ?_ | refine vQ (iF c (by omega)) ?_ | refine vM (mQ c _ (by omega)) ?_ | refine vM (mQ X _ (by omega)) ?_ | refine vM (wE Y _ (by omega)) ?_ | refine vO (mR X 1 (by omega)) ?_ | refine vQ (mR X 1 (by omega)) ?_ | refine vO (mO Y ((1 : Int) + (csum cnField X.fStore.fSchema : Nat) + (csum cnFile X.fStore.fFiles : Nat) + (csum cnDir X.fDirs : Nat) + (csum cnResult X.fResults : Nat)) (by omega)) ?_ | refine vQ (mO Y ((1 : Int) + (csum cnField X.fStore.fSchema : Nat) + (csum cnFile X.fStore.fFiles : Nat) + (csum cnDir X.fDirs : Nat) + (csum cnResult X.fResults : Nat)) (by omega)) ?_ | refine cP (nZ c (by omega)) ?_ | refine aO ?_ | fail)
  exact aA ⟨⟨_, rfl, by simp only [go_sem]⟩, trivial⟩
theorem zU (c : TCatalog) (u : Int) (n : ByteArray) (id : Int) (hfc : pM c) : FnC Tryz.prog 6 [bZ c, oi u, os n, oi id] (ob true) := by
 refine ent Tryz.func6 rfl Tryz.call6 rfl (fun C => ?_); simp only [go_sem, st0, Tryz.ntmps6]
 by_cases gn : (1048576 : Int) < (n.size : Int)
 ·have q0 := @gn; have q1 := @decide_true; refine fI ?_
  exact aA ⟨⟨_, rfl, by simp only [go_sem]⟩, trivial⟩
 have z1 := a1n c 1048576 (by omega) hfc
 by_cases h1 : cO 1048576 (wCatalog c) < 0
 ·have q0 := @gn; have q1 := @h1; refine jZ z1 ?_
  exact aA ⟨⟨_, rfl, by simp only [go_sem]⟩, trivial⟩
 have s1 : wCatalog c ≤ 1048576 := by have := a9w h1; omega
 have e1 : cO 1048576 (wCatalog c) = 1048576 - (wCatalog c : Nat) := bI (by omega)
 rw [e1] at z1 h1
 have b1c : aL c.fStore = aN c.fStore.fSchema + cZ c.fStore.fFiles := rfl
 have b2c : cZ c.fStore.fFiles = c.fStore.fFiles.length + wsum wFile c.fStore.fFiles := rfl
 have b3c : c.fStore.fSchema.length ≤ aN c.fStore.fSchema := by unfold aN; omega
 have b4c : aY c.fDirs = c.fDirs.length + wsum wDir c.fDirs := rfl
 have b5c : aG c.fResults = c.fResults.length + wsum wResult c.fResults := rfl
 have b6c := zN c.fStore.fSchema
 have b7c := a1A c.fStore.fFiles
 have b8c := a3M c.fDirs
 have b9c := wH c.fResults
 have b0c : wCatalog c = aL c.fStore + aY c.fDirs + aG c.fResults := rfl
 have hi := xO c u id n (by omega)
 have hk := xP c u id n (by omega)
 have hC := b5i c u id n false (by omega)
 generalize (wtC c u n id false) = X at *
 generalize (wtA c u n id false) = Y at *
 generalize (wtB c u n id false) = B at *
 obtain ⟨q1, q2, q3, q4⟩ := hC
 have b1X : aL X.fStore = aN X.fStore.fSchema + cZ X.fStore.fFiles := rfl
 have b2X : cZ X.fStore.fFiles = X.fStore.fFiles.length + wsum wFile X.fStore.fFiles := rfl
 have b3X : X.fStore.fSchema.length ≤ aN X.fStore.fSchema := by unfold aN; omega
 have b4X : aY X.fDirs = X.fDirs.length + wsum wDir X.fDirs := rfl
 have b5X : aG X.fResults = X.fResults.length + wsum wResult X.fResults := rfl
 have b6X := zN X.fStore.fSchema
 have b7X := a1A X.fStore.fFiles
 have b8X := a3M X.fDirs
 have b9X := wH X.fResults
 have b0X : wCatalog X = aL X.fStore + aY X.fDirs + aG X.fResults := rfl
 have hX : wCatalog X ≤ 67108864 := by unfold wCatalog; omega
 have k1 : ¬ ((1 : Int) + (csum cnField c.fStore.fSchema : Nat) + (csum cnFile c.fStore.fFiles : Nat) + (csum cnDir c.fDirs : Nat) + (csum cnResult c.fResults : Nat) < 0) := by omega
 have k2 : ¬ ((1 : Int) + (csum cnField X.fStore.fSchema : Nat) + (csum cnFile X.fStore.fFiles : Nat) + (csum cnDir X.fDirs : Nat) + (csum cnResult X.fResults : Nat) < 0) := by omega
 have y1 := a5b Y
 have y2 : Y.length ≤ aV Y := by unfold aV; omega
 have k3 : ¬ ((1 : Int) + (csum cnField X.fStore.fSchema : Nat) + (csum cnFile X.fStore.fFiles : Nat) + (csum cnDir X.fDirs : Nat) + (csum cnResult X.fResults : Nat) + (csum cnAttr Y : Nat) < 0) := by omega
 cases B
 all_goals
  have q0 := @gn; have q1 := @h1; have q2 := @k1; have q3 := @k2; have q4 := @k3; have q5 := @Bool.true_beq; have q6 := @Bool.false_beq; refine a5Y z1 ?_
  repeat' (with_reducible first | refine nX ?_ | (refine mX ?_; try simp only [go_sem]) | refine kD ?_ | refine cP (nZ c (by omega)) ?_ | refine cP hk ?_ | refine aO ?_ | fail)
  have qH := aI @gn (aI @h1 (aI @k1 (aI @k2 (aI @k3 (aI @Bool.true_beq @Bool.false_beq))))); repeat' (with_reducible first | refine nY ?_ | (refine mX ?_; try simp only [go_sem, qH]) | refine kD ?_ | refine rD ?_ | refine vO (mH c (by omega)) ?_ | refine vQ (mH c (by omega)) ?_ | refine vO hi ?_ | refine vQ hi ?_ | refine vO (iF X hX) ?_ | refine vQ (iF X hX) ?_ | refine vO (qP Y (by omega)) ?_ | refine vQ (qP Y (by omega)) ?_ | refine vO (iF c (by omega)) ?_ | refine vQ (iF c (by omega)) ?_ | refine vM (mQ c _ (by omega)) ?_ | refine vM (mQ X _ (by omega)) ?_ | refine vM (wE Y _ (by omega)) ?_ | refine vO (mR X 1 (by omega)) ?_ | refine vQ (mR X 1 (by omega)) ?_ | refine vO (mO Y ((1 : Int) + (csum cnField X.fStore.fSchema : Nat) + (csum cnFile X.fStore.fFiles : Nat) + (csum cnDir X.fDirs : Nat) + (csum cnResult X.fResults : Nat)) (by omega)) ?_ | refine vQ (mO Y ((1 : Int) + (csum cnField X.fStore.fSchema : Nat) + (csum cnFile X.fStore.fFiles : Nat) + (csum cnDir X.fDirs : Nat) + (csum cnResult X.fResults : Nat)) (by omega)) ?_ | refine cP (nZ c (by omega)) ?_ | refine aO ?_ | fail)
  exact aA ⟨⟨_, rfl, by simp only [go_sem]⟩, trivial⟩
end Go.Proofs.YteaaopodnbjpoaaGreat
end
