/- Joined texts. -/
import Derived.Test.YtakopfjdmmnjcaaGreatZ05
import Derived.Test.YtakopfjdmmnjcaaGreatZ10
import Derived.Test.YtakopfjdmmnjcaaGreatZ07
import Derived.Test.YtakopfjdmmnjcaaGreatZ06
set_option linter.all false
section
namespace Go.Proofs.YtakopfjdmmnjcaaGreat
open Go Go.Sx Go.RowKit Go.Proofs
def Ok2 (s : St) : Prop := s.okB = true
theorem oH {s : St} (h : s.okB = true := by simp only [go_sem] <;> fail) : Ok2 s := h
theorem oG {s : St} (h : s.okB = true) : Ok2 s := h
theorem rE {C : Ctx} {id : Nat} {ops L W : List Oper} {T : PO} {F : Ex → St → Prop} {st G : St} (ps ls l0 w0 : List Nat) (t : PT) (hl : dW ops l0 = L) (hw : dW ops w0 = W) (hp : lQ ops t = T)
    (hok : (okE ops ps ls && (l0.all fun i => !ps.contains i) && okN ops ps [] ps w0 t && xZ ops ps t [] ps && ps.all fun q => decide (q < ops.length)) = true) (hb : st.okB = true) (h : vcDRun (EV C) ops L st (fun st1 => vcTN (EV C) false ops W T st1 (zH G) ⟨⟩) ⟨⟩) (hG : Ok2 G) (hF : F .normal G) : WP Tryz.prog C (.region id ops.toArray true) F st := by
 subst hl hw hp
 simp only [Bool.and_eq_true] at hok
 refine b1F (E := EV C) ttOK a2x fol ps ls l0 w0 t hok.1.1.1.1 hok.1.1.1.2 hok.1.1.2 hok.1.2 hok.2 hb ?_ hG hF
 have e : (fun st1 => vcTN (EV C) false ops (dW ops w0) (lQ ops t) st1 (zH G) ⟨⟩) = (fun st1 => pK (EV C) st1 (dW ops w0) ∧ if t.isNil = true then zH G st1 else tL (EV C) false ops t st1 (zH G)) := funext fun s => propext (by
  constructor
  ·intro h; have := h.out; rwa [oO, iO] at this
  ·intro h; exact ⟨by rwa [oO, iO]⟩)
 rw [e] at h
 exact h.out
theorem rF {C : Ctx} {id : Nat} {ops L W : List Oper} {T : PO} {F : Ex → St → Prop} {st : St} (ps ls l0 w0 : List Nat) (t : PT) (hl : dW ops l0 = L) (hw : dW ops w0 = W) (hp : lQ ops t = T)
    (hok : (okE ops ps ls && (l0.all fun i => !ps.contains i) && okN ops ps [] ps w0 t && xZ ops ps t [] ps && ps.all fun q => decide (q < ops.length)) = true) (hb : st.okB = true) (h : vcDRun (EV C) ops L st (fun st1 => vcTN (EV C) true ops W T st1 (F .normal) ⟨⟩) ⟨⟩) : WP Tryz.prog C (.region id ops.toArray true) F st := by
 subst hl hw hp
 simp only [Bool.and_eq_true] at hok
 refine a8Q (E := EV C) ttOK a2x fol ps ls l0 w0 t hok.1.1.1.1 hok.1.1.1.2 hok.1.1.2 hok.1.2 hok.2 hb ?_
 have e : (fun st1 => vcTN (EV C) true ops (dW ops w0) (lQ ops t) st1 (F .normal) ⟨⟩) = (fun st1 => pK (EV C) st1 (dW ops w0) ∧ if t.isNil = true then F .normal st1 else tL (EV C) true ops t st1 (F .normal)) := funext fun s => propext (by
  constructor
  ·intro h; have := h.out; rwa [oO, iO] at this
  ·intro h; exact ⟨by rwa [oO, iO]⟩)
 rw [e] at h
 exact h.out
instance clH {C : Ctx} {f : Nat} {args args' : List SV} {res : SV} {h : List HB} {k : List HB → SV → Prop} : Cy Tryz.prog f args' res (CallH (EV C) f args h k ⟨⟩) (args.map (fE (aT h (dB args))) = args' ∧ args'.all bJ = true) (Nm (k (aT h (dB args) ++ adH res.all) (adS (aT h (dB args)).length res))) := ⟨fun hf o hk => CallH.det (CallG.frz (E := EV C) hf o.1 o.2 hk)⟩
theorem hO {C : Ctx} {f : Nat} {args args' : List SV} {res : SV} {h : List HB} {k : List HB → SV → Prop} (hf : FnC Tryz.prog f args' res) (hk : Nm (k (h ++ adG (fun _ => none) 0 res.all) (adS h.length res))) (he : args.map (bO h) = args' := by simp only [go_sem, qH] <;> fail) (hfree : args'.all bJ = true := by simp only [go_sem, qH] <;> fail) (hres : res.all.all gJ = true := by simp only [go_sem, qH] <;> fail) : CallH (EV C) f args h k ⟨⟩ := CallH.det (cGo hf he hfree hres hk)
theorem hR {C : Ctx} {f : Nat} {args args' : List SV} {res : SV} {h : List HB} {k : List HB → SV → Prop} (hf : FnC Tryz.prog f args' res) (hk : Nm (k (h ++ adH res.all) (adS h.length res))) (he : args.map (bO h) = args' := by simp only [go_sem, qH] <;> fail) (hfree : args'.all bJ = true := by simp only [go_sem, qH] <;> fail) (hres : res.all.all gJ = true := by simp only [go_sem, qH] <;> fail) : CallH (EV C) f args h k ⟨⟩ := CallH.det (cGr hf he hfree hres hk)
end Go.Proofs.YtakopfjdmmnjcaaGreat
end
section
set_option maxRecDepth 100000
set_option maxHeartbeats 4000000
namespace Go.Proofs.YtakopfjdmmnjcaaGreat
open Go Go.Sx Go.RowKit Go.Proofs
theorem a5Y (l : List ByteArray) (hl : l.length ≤ 4300000) : FnC Tryz.prog 210 [.o (.d (.sl (l.map gW)))] (.o (.w 9 1 (l.map gW))) := by
 refine ent Tryz.func210 rfl Tryz.call210 rfl (fun C => ?_); simp only [go_sem, st0, Tryz.ntmps210]
 refine aD ?_
 intro b hb
 refine aD ?_
 refine cnd rfl (fun h1 => ?_) (fun h1 => ?_)
 ·have e := hb h1
  simp only [List.map_eq_nil_iff] at e
  subst e
  refine aD ?_
  exact aA ⟨⟨_, rfl, by simp only [go_sem]⟩, trivial⟩
 ·refine aD ?_
  exact aA ⟨⟨_, rfl, by simp only [go_sem, b1A]⟩, trivial⟩
theorem a4w (l : List TAttr) (hl : l.length ≤ 4300000) : FnC Tryz.prog 121 [.o (.d (.sl (l.map dJ)))] (.o (.w 110 4 (l.map dJ))) := by
 refine ent Tryz.func121 rfl Tryz.call121 rfl (fun C => ?_); simp only [go_sem, st0, Tryz.ntmps121]
 refine aD ?_
 intro b hb
 refine aD ?_
 refine cnd rfl (fun h1 => ?_) (fun h1 => ?_)
 ·have e := hb h1
  simp only [List.map_eq_nil_iff] at e
  subst e
  refine aD ?_
  exact aA ⟨⟨_, rfl, by simp only [go_sem]⟩, trivial⟩
 ·refine aD ?_
  exact aA ⟨⟨_, rfl, by simp only [go_sem, b1A]⟩, trivial⟩
theorem a2C (l : List TField) (hl : l.length ≤ 4300000) : FnC Tryz.prog 79 [.o (.d (.sl (l.map bC)))] (.o (.w 113 2 (l.map bC))) := by
 refine ent Tryz.func79 rfl Tryz.call79 rfl (fun C => ?_); simp only [go_sem, st0, Tryz.ntmps79]
 refine aD ?_
 intro b hb
 refine aD ?_
 refine cnd rfl (fun h1 => ?_) (fun h1 => ?_)
 ·have e := hb h1
  simp only [List.map_eq_nil_iff] at e
  subst e
  refine aD ?_
  exact aA ⟨⟨_, rfl, by simp only [go_sem]⟩, trivial⟩
 ·refine aD ?_
  exact aA ⟨⟨_, rfl, by simp only [go_sem, b1A]⟩, trivial⟩
theorem a0M (f : Nat) (c : List D) (p : TDir → Bool) (l : List TDir) (hf : ∀ s ∈ l, FnC Tryz.prog f [a9T s, .o (.q c)] (ob (p s))) (hl : l.length ≤ 8388608) : FnC Tryz.prog 202 [.o (.d (.sl (l.map bH))), .o (.f f [c])] (oi (idxP p l 0)) := by
 refine ent Tryz.func202 rfl Tryz.call202 rfl (fun C => ?_); simp only [go_sem, st0, Tryz.ntmps202]
 refine aD ?_
 refine aM (α := Nat) (fun k => [(8, oi k)]) (fun _ => []) (fun k => k ≤ l.length ∧ idxP p l 0 = idxP p (l.drop k) k) (fun k => l.length - k) 0 (fun _ => ?_) ?_ ?_ (fun k hk => ?_)
 ·simp only [go_sem]
 ·simp only [go_sem]; simp
 ·simp
 ·obtain ⟨hk, hq⟩ := hk
  simp only [go_sem]
  refine aD ?_
  refine cnd rfl (fun h => ?_) (fun h => ?_)
  ·simp only [decide_eq_true_eq, Int.ofNat_lt] at h
   have hd := List.drop_eq_getElem_cons h
   rw [hd, idxP] at hq
   have q0 := @h; refine iU (hf l[k] (List.getElem_mem h)) ?_
   refine cnd rfl (fun h2 => ?_) (fun h2 => ?_)
   ·refine aD ?_
    exact aA ⟨⟨_, rfl, by simp only [go_sem, hq, h2]⟩, trivial⟩
   ·refine aD ?_
    refine aF (k + 1) ?_ ?_ ?_
    ·simp only [go_sem]; simp
    ·rw [hq, h2]; exact ⟨h, by simp⟩
    ·omega
  ·simp only [decide_eq_false_iff_not] at h
   have e : k = l.length := by omega
   subst e
   simp only [List.drop_length, idxP] at hq
   refine aD ?_
   exact aA ⟨⟨_, rfl, by simp only [go_sem, hq]⟩, trivial⟩
theorem zI (f : Nat) (c : List D) (p : TFile → Bool) (l : List TFile) (hf : ∀ s ∈ l, FnC Tryz.prog f [jC s, .o (.q c)] (ob (p s))) (hl : l.length ≤ 8388608) : FnC Tryz.prog 122 [.o (.d (.sl (l.map bQ))), .o (.f f [c])] (oi (idxP p l 0)) := by
 refine ent Tryz.func122 rfl Tryz.call122 rfl (fun C => ?_); simp only [go_sem, st0, Tryz.ntmps122]
 refine aD ?_
 refine aM (α := Nat) (fun k => [(8, oi k)]) (fun _ => []) (fun k => k ≤ l.length ∧ idxP p l 0 = idxP p (l.drop k) k) (fun k => l.length - k) 0 (fun _ => ?_) ?_ ?_ (fun k hk => ?_)
 ·simp only [go_sem]
 ·simp only [go_sem]; simp
 ·simp
 ·obtain ⟨hk, hq⟩ := hk
  simp only [go_sem]
  refine aD ?_
  refine cnd rfl (fun h => ?_) (fun h => ?_)
  ·simp only [decide_eq_true_eq, Int.ofNat_lt] at h
   have hd := List.drop_eq_getElem_cons h
   rw [hd, idxP] at hq
   have q0 := @h; refine iU (hf l[k] (List.getElem_mem h)) ?_
   refine cnd rfl (fun h2 => ?_) (fun h2 => ?_)
   ·refine aD ?_
    exact aA ⟨⟨_, rfl, by simp only [go_sem, hq, h2]⟩, trivial⟩
   ·refine aD ?_
    refine aF (k + 1) ?_ ?_ ?_
    ·simp only [go_sem]; simp
    ·rw [hq, h2]; exact ⟨h, by simp⟩
    ·omega
  ·simp only [decide_eq_false_iff_not] at h
   have e : k = l.length := by omega
   subst e
   simp only [List.drop_length, idxP] at hq
   refine aD ?_
   exact aA ⟨⟨_, rfl, by simp only [go_sem, hq]⟩, trivial⟩
end Go.Proofs.YtakopfjdmmnjcaaGreat
end
section
set_option maxRecDepth 100000
namespace Go.Proofs.YtakopfjdmmnjcaaGreat
open Go Go.Sx Go.RowKit Go.Proofs
theorem b6g {α : Type} (l : List α) : (l.all fun _ => true) = true := by simp
theorem a5Z (l : List Int) (hl : l.length ≤ 67108864) : FnC Tryz.prog 126 [.o (.d (.sl (l.map fA)))] (.o (.w 3 1 (l.map fA))) := by
 refine ent Tryz.func126 rfl Tryz.call126 rfl (fun C => ?_); simp only [go_sem, st0, Tryz.ntmps126]
 refine aD ?_
 intro b hb
 refine aD ?_
 refine cnd rfl (fun h1 => ?_) (fun h1 => ?_)
 ·have e := hb h1
  simp only [List.map_eq_nil_iff] at e
  subst e
  refine aD ?_
  exact aA ⟨⟨_, rfl, by simp only [go_sem]⟩, trivial⟩
 ·refine aD ?_
  exact aA ⟨⟨_, rfl, by simp only [go_sem, b6g]⟩, trivial⟩
end Go.Proofs.YtakopfjdmmnjcaaGreat
end
section
set_option maxRecDepth 100000
set_option maxHeartbeats 4000000
namespace Go.Proofs.YtakopfjdmmnjcaaGreat
open Go Go.Sx Go.RowKit Go.Proofs
theorem a3x (f : TFile) (h : f.fAttrs.length ≤ 4300000) : FnC Tryz.prog 81 [jC f] (a5T f) := by
 refine ent Tryz.func81 rfl Tryz.call81 rfl (fun C => ?_); simp only [go_sem, st0, Tryz.ntmps81]
 refine iL (a4w f.fAttrs h) ?_
 exact aA ⟨⟨_, rfl, by simp only [go_sem]⟩, trivial⟩
theorem a5V (f : TFile) (h : f.fAttrs.length ≤ 4300000) : FnC Tryz.prog 66 [jC f] (a5T f) := by
 refine ent Tryz.func66 rfl Tryz.call66 rfl (fun C => ?_); simp only [go_sem, st0, Tryz.ntmps66]
 refine aD ?_
 exact aA ⟨⟨_, rfl, by simp only [go_sem]⟩, trivial⟩
theorem a7z (id : Int) (x : TFile) : FnC Tryz.prog 123 [jC x, .o (.q [iv id])] (ob (decide (x.fID = id))) := by
 refine ent Tryz.func123 rfl Tryz.call123 rfl (fun C => ?_); simp only [go_sem, st0, Tryz.ntmps123]
 refine aD ?_
 exact aA ⟨⟨_, rfl, by simp only [go_sem]⟩, trivial⟩
theorem yZ (s : TStore) (id : Int) (hl : s.fFiles.length ≤ 4300000) : FnC Tryz.prog 82 [cB s, oi id] (oi (ixF id s.fFiles)) := by
 refine ent Tryz.func82 rfl Tryz.call82 rfl (fun C => ?_); simp only [go_sem, st0, Tryz.ntmps82]
 refine iL (zI _ _ (fun x => decide (x.fID = id)) s.fFiles (fun y _ => a7z id y) (by omega)) ?_
 exact aA ⟨⟨_, rfl, by simp only [go_sem, ixF]⟩, trivial⟩
theorem tF (s : TStore) (id : Int) (hl : s.fFiles.length ≤ 4300000) : FnC Tryz.prog 67 [cB s, oi id] (oi (ixF id s.fFiles)) := by
 refine ent Tryz.func67 rfl Tryz.call67 rfl (fun C => ?_); simp only [go_sem, st0, Tryz.ntmps67]
 refine aD ?_
 refine aM (α := Nat) (fun k => [(5, oi k)]) (fun _ => []) (fun k => k ≤ s.fFiles.length ∧ ixF id s.fFiles = idxP (fun f => decide (f.fID = id)) (s.fFiles.drop k) k) (fun k => s.fFiles.length - k) 0 (fun _ => ?_) ?_ ?_ (fun k hk => ?_)
 ·simp only [go_sem]
 ·simp only [go_sem]; simp
 ·simp [ixF]
 ·obtain ⟨hk, hq⟩ := hk
  simp only [go_sem]
  refine aD ?_
  refine cnd rfl (fun h => ?_) (fun h => ?_)
  ·simp only [decide_eq_true_eq, Int.ofNat_lt] at h
   have hd := List.drop_eq_getElem_cons h
   rw [hd, idxP] at hq
   by_cases h2 : s.fFiles[k].fID = id
   ·rw [if_pos (by simp [h2])] at hq
    have q0 := @h; have q1 := @h2; have q2 := @decide_true; refine lI ?_
    exact aA ⟨⟨_, rfl, by simp only [go_sem, hq]⟩, trivial⟩
   ·rw [if_neg (by simp [h2])] at hq
    have q0 := @h; have q1 := @h2; have q2 := @decide_false; refine lI ?_
    refine aF (k + 1) ?_ ?_ ?_
    ·simp only [go_sem]; simp
    ·rw [hq]; exact ⟨h, by simp⟩
    ·omega
  ·simp only [decide_eq_false_iff_not] at h
   have e : k = s.fFiles.length := by omega
   subst e
   simp only [List.drop_length, idxP] at hq
   refine aD ?_
   exact aA ⟨⟨_, rfl, by simp only [go_sem, hq]⟩, trivial⟩
theorem a5L (s : TStore) (id : Int) (h : wStore s ≤ 4300000) : FnC Tryz.prog 72 [cB s, oi id] (.t [(true, (a5T (iT id s.fFiles)).cells), (false, [.d (bv (decide (0 ≤ ixF id s.fFiles)))])]) := by
 have hl : s.fFiles.length ≤ 4300000 := by unfold wStore dO at h; omega
 refine ent Tryz.func72 rfl Tryz.call72 rfl (fun C => ?_); simp only [go_sem, st0, Tryz.ntmps72]
 rcases ixF_cases id s.fFiles with e | ⟨p, e, hp, _⟩
 ·have e1 := a1F e
  have hz : ¬ (0 : Int) ≤ -1 := by omega
  have hk := yZ s id hl
  rw [e] at hk
  have q0 := @hz; have q1 := @decide_false; refine qX hk ?_
  exact aA ⟨⟨_, rfl, by simp only [go_sem, e, e1, hz, decide_false, zF, List.map_nil]; try simp⟩, by simp [dN]⟩
 ·have e1 := zA e hp
  have hz : (0 : Int) ≤ (p : Int) := by omega
  have hw := bB wFile s.fFiles hp
  have hx : s.fFiles[p].fAttrs.length ≤ 4300000 := by
   have e : s.fFiles[p].fAttrs.length ≤ wFile s.fFiles[p] := by unfold wFile dV; omega
   unfold wStore dO at h; omega
  have hk := yZ s id hl
  rw [e] at hk
  have q0 := @hz; have q1 := @hp; have q2 := @decide_true; have q3 := @Int.toNat_natCast; refine xR hk (a3x s.fFiles[p] hx) ?_
  exact aA ⟨⟨_, rfl, by simp only [go_sem, e, e1, hz, decide_true]; try simp⟩, by simp [dN]⟩
theorem a5M (s : TStore) (id : Int) (h : wStore s ≤ 4300000) : FnC Tryz.prog 85 [cB s, oi id] (.t [(true, (a5T (iT id s.fFiles)).cells), (false, [.d (bv (decide (0 ≤ ixF id s.fFiles)))])]) := by
 have hl : s.fFiles.length ≤ 4300000 := by unfold wStore dO at h; omega
 refine ent Tryz.func85 rfl Tryz.call85 rfl (fun C => ?_); simp only [go_sem, st0, Tryz.ntmps85]
 rcases ixF_cases id s.fFiles with e | ⟨p, e, hp, _⟩
 ·have e1 := a1F e
  have hz : ¬ (0 : Int) ≤ -1 := by omega
  have hy : (-1 : Int) < 0 := by omega
  have hk := tF s id hl
  rw [e] at hk
  have q0 := @hy; have q1 := @decide_true; refine qX hk ?_
  exact aA ⟨⟨_, rfl, by simp only [go_sem, e, e1, hz, decide_false, zF, List.map_nil]; try simp⟩, by simp [dN]⟩
 ·have e1 := zA e hp
  have hz : (0 : Int) ≤ (p : Int) := by omega
  have hy : ¬ (p : Int) < 0 := by omega
  have hw := bB wFile s.fFiles hp
  have hx : s.fFiles[p].fAttrs.length ≤ 4300000 := by
   have e : s.fFiles[p].fAttrs.length ≤ wFile s.fFiles[p] := by unfold wFile dV; omega
   unfold wStore dO at h; omega
  have hk := tF s id hl
  rw [e] at hk
  have q0 := @hy; have q1 := @hp; have q2 := @decide_false; have q3 := @Int.toNat_natCast; refine xR hk (a5V s.fFiles[p] hx) ?_
  exact aA ⟨⟨_, rfl, by simp only [go_sem, e, e1, hz, decide_true]; try simp⟩, by simp [dN]⟩
end Go.Proofs.YtakopfjdmmnjcaaGreat
end
section
set_option maxRecDepth 100000
set_option maxHeartbeats 4000000
namespace Go.Proofs.YtakopfjdmmnjcaaGreat
open Go Go.Sx Go.RowKit Go.Proofs Go.Lib
end Go.Proofs.YtakopfjdmmnjcaaGreat
end
section
section
set_option linter.all false
set_option maxRecDepth 100000
set_option maxHeartbeats 4000000
namespace Go.Proofs.YtakopfjdmmnjcaaGreat
open Go Go.Sx Go.RowKit Go.Proofs
def a7P (k : Nat) (out : ByteArray) : ByteArray :=
 if h : k = 0 then out else a7P (k / 10) (xH [(48 : Int) + ((k % 10 : Nat) : Int)] ++ out)
decreasing_by omega
def nV (k : Int) : ByteArray := ⟨#[109]⟩ ++ a7P k.toNat ⟨#[]⟩
theorem gI (k : Int) (hk : 1 ≤ k ∧ k ≤ 4611686018427387904) : FnC Tryz.prog 53 [oi k] (os (nV k)) := by
 obtain ⟨n, rfl⟩ : ∃ n : Nat, k = n := ⟨k.toNat, by omega⟩
 have h0 : ¬ ((n : Int) ≤ 0) := by omega
 have hm : nV (n : Int) = ⟨#[109]⟩ ++ a7P n ⟨#[]⟩ := by simp [nV]
 rw [hm]
 generalize hq : a7P n ⟨#[]⟩ = res
 refine ent Tryz.func53 rfl Tryz.call53 rfl (fun C => ?_); simp only [go_sem, st0, Tryz.ntmps53]
 have q0 := @h0; have q1 := @decide_false; refine jB ?_
 refine aM (α := Nat × ByteArray) (fun p => [(0, oi p.1), (3, os p.2)]) (fun _ => []) (fun p => a7P p.1 p.2 = res ∧ p.2.size + p.1 ≤ n) (fun p => p.1) (n, ⟨#[]⟩) (fun _ => ?_) ?_ ?_ (fun p hp => ?_)
 ·simp only [go_sem]
 ·simp only [go_sem]; simp
 ·exact ⟨hq, by show 0 + n ≤ n; omega⟩
 ·obtain ⟨j, out⟩ := p
  obtain ⟨hp, hs⟩ := hp
  simp only at hp hs
  simp only [go_sem]
  refine aD ?_
  refine cnd rfl (fun h => ?_) (fun h => ?_)
  ·simp only [decide_eq_true_eq] at h
   have hj : j ≠ 0 := by omega
   rw [a7P, dif_neg hj] at hp
   have e1 : (j : Int).tmod 10 = ((j % 10 : Nat) : Int) := by rw [Int.tmod_eq_emod_of_nonneg (by omega)]; omega
   have e2 : (j : Int).tdiv 10 = ((j / 10 : Nat) : Int) := by rw [Int.tdiv_eq_ediv_of_nonneg (by omega)]; omega
   have q0 := @e1; have q1 := @e2; refine jB ?_
   refine aF (j / 10, xH [(48 : Int) + ((j % 10 : Nat) : Int)] ++ out) ?_ ?_ ?_
   ·simp only [go_sem, e1, e2]; simp [xH]
   ·refine ⟨hp, ?_⟩
    simp only [ByteArray.size_append, xH, List.map_cons, List.map_nil, b3B, List.length_cons, List.length_nil]
    omega
   ·simp only; omega
  ·simp only [decide_eq_false_iff_not] at h
   have hj : j = 0 := by omega
   subst hj
   rw [a7P, dif_pos rfl] at hp
   subst hp
   refine aD ?_
   exact aA ⟨⟨_, rfl, by simp only [go_sem]⟩, trivial⟩
def cnInt (x : Int) : Nat := 1
theorem a3y : ∀ x, 1 ≤ cnInt x := fun x => by unfold cnInt; omega
def tN (x : Int) (k : Int) : Int := k
theorem a6a (l : List Int) (k : Int) (hk : 1 ≤ k ∧ k + (csum cnInt l : Nat) ≤ 4611686018427387904) : FnM Tryz.prog 55 false [.w 0 1 (l.map fA)] [.w 0 1 ((mkL tN cnInt l k).map fA)] k (k + (csum cnInt l : Nat)) := by
 have hlen := iZ cnInt a3y l
 refine entm Tryz.func55 rfl Tryz.call55 rfl (by simp) (by simp only [go_sem]) (fun C tg => ?_); simp only [go_sem, Tryz.ntmps55]
 refine aD ?_
 refine aM (α := Nat) (fun j => [(5, oi j), (1, oi (k + (csum cnInt (l.take j) : Nat)))]) (fun j => [(0, .own (tg 0) 1 (sH fA tN cnInt l k j))]) (fun j => j ≤ l.length) (fun j => l.length - j) 0 (fun _ => ?_) ?_ ?_ (fun j hj => ?_)
 ·simp only [go_sem]
 ·simp only [go_sem]; simp [kJ, csum]
 ·simp
 ·simp only [go_sem]
  refine aD ?_
  refine cnd rfl (fun h => ?_) (fun h => ?_)
  ·simp only [decide_eq_true_eq, Int.ofNat_lt] at h
   have hs := gT cnInt l h
   have ht := kV cnInt l (j + 1)
   have hc : cnInt l[j] = 1 := rfl
   have hset := mU fA tN cnInt l k j h
   have hkk : k + (csum cnInt (l.take (j + 1)) : Nat) = k + (csum cnInt (l.take j) : Nat) + (cnInt l[j] : Nat) := by omega
   generalize k + (csum cnInt (l.take j) : Nat) = K at hset hkk ⊢
   have hK : 1 ≤ K ∧ K + (cnInt l[j] : Nat) ≤ 4611686018427387904 := by omega
   have q0 := @h; refine iB ?_
   refine aF (j + 1) ?_ ?_ ?_
   ·simp only [go_sem, hkk, ← hset]
    simp [tN, fA, hc]
    try omega
   ·omega
   ·omega
  ·simp only [decide_eq_false_iff_not] at h
   have e : j = l.length := by omega
   subst e
   refine aD ?_
   exact ⟨⟨⟨_, rfl, by simp only [go_sem, fF, List.take_length]⟩, trivial⟩, by simp only [go_sem, fF, List.take_length]⟩
theorem a6b (l : List Int) (k : Int) (hk : 1 ≤ k ∧ k + (csum cnInt l : Nat) ≤ 4611686018427387904) : FnC Tryz.prog 56 [.o (.d (.sl ((mkL tN cnInt l k).map fA))), oi k] (oi (k + (csum cnInt l : Nat))) := by
 have hlen := iZ cnInt a3y l
 refine ent Tryz.func56 rfl Tryz.call56 rfl (fun C => ?_); simp only [go_sem, st0, Tryz.ntmps56]
 refine aD ?_
 refine aM (α := Nat) (fun j => [(5, oi j), (1, oi (k + (csum cnInt (l.take j) : Nat)))]) (fun _ => []) (fun j => j ≤ l.length) (fun j => l.length - j) 0 (fun _ => ?_) ?_ ?_ (fun j hj => ?_)
 ·simp only [go_sem]
 ·simp only [go_sem]; simp [csum]
 ·simp
 ·simp only [go_sem]
  refine aD ?_
  refine cnd rfl (fun h => ?_) (fun h => ?_)
  ·simp only [decide_eq_true_eq, Int.ofNat_lt] at h
   have hs := gT cnInt l h
   have ht := kV cnInt l (j + 1)
   have hc : cnInt l[j] = 1 := rfl
   have hkk : k + (csum cnInt (l.take (j + 1)) : Nat) = k + (csum cnInt (l.take j) : Nat) + (cnInt l[j] : Nat) := by omega
   have hg := xA tN cnInt l k j (by rw [fM]; exact h)
   generalize k + (csum cnInt (l.take j) : Nat) = K at hg hkk ⊢
   have hK : 1 ≤ K ∧ K + (cnInt l[j] : Nat) ≤ 4611686018427387904 := by omega
   repeat' (with_reducible first | refine nY ?_ | (refine mX ?_; try simp only [go_sem, h, hg, tN]) | refine kO ?_ (by decide) | refine regd (by kernel_rfl) ?_ | (refine And.intro ?_ ?_; focus omega))
   refine aF (j + 1) ?_ ?_ ?_
   ·simp only [go_sem, hkk]
    simp [hc]
    try omega
   ·omega
   ·omega
  ·simp only [decide_eq_false_iff_not] at h
   have e : j = l.length := by omega
   subst e
   refine aD ?_
   exact aA ⟨⟨_, rfl, by simp only [go_sem, List.take_length]⟩, trivial⟩
def b6C (x : ByteArray) : Nat := 1
def b6D (x : ByteArray) (k : Int) : ByteArray := (nV k)
def b6h (x : Bool) : Nat := 1
def b6i (x : Bool) (k : Int) : Bool := (decide (Int.tmod k 3 = 0))
end Go.Proofs.YtakopfjdmmnjcaaGreat
end
section
set_option linter.all false
set_option maxRecDepth 100000
set_option maxHeartbeats 4000000
namespace Go.Proofs.YtakopfjdmmnjcaaGreat
open Go Go.Sx Go.RowKit Go.Proofs
def cnField (x : TField) : Nat := 2
theorem a6c : ∀ x, 1 ≤ cnField x := fun x => by unfold cnField; omega
def yD (x : TField) (k : Int) : TField := ⟨(nV k), (k + 1)⟩
theorem a2E (l : List TField) (k : Int) (hk : 1 ≤ k ∧ k + (csum cnField l : Nat) ≤ 4611686018427387904) : FnM Tryz.prog 51 false [.w 0 2 (l.map bC)] [.w 0 2 ((mkL yD cnField l k).map bC)] k (k + (csum cnField l : Nat)) := by
 have hlen := iZ cnField a6c l
 refine entm Tryz.func51 rfl Tryz.call51 rfl (by simp) (by simp only [go_sem]) (fun C tg => ?_); simp only [go_sem, Tryz.ntmps51]
 refine aD ?_
 refine aM (α := Nat) (fun j => [(5, oi j), (1, oi (k + (csum cnField (l.take j) : Nat)))]) (fun j => [(0, .own (tg 0) 2 (sH bC yD cnField l k j))]) (fun j => j ≤ l.length) (fun j => l.length - j) 0 (fun _ => ?_) ?_ ?_ (fun j hj => ?_)
 ·simp only [go_sem]
 ·simp only [go_sem]; simp [kJ, csum]
 ·simp
 ·simp only [go_sem]
  refine aD ?_
  refine cnd rfl (fun h => ?_) (fun h => ?_)
  ·simp only [decide_eq_true_eq, Int.ofNat_lt] at h
   have hs := gT cnField l h
   have ht := kV cnField l (j + 1)
   have hc : cnField l[j] = 2 := rfl
   have hset := mU bC yD cnField l k j h
   have hkk : k + (csum cnField (l.take (j + 1)) : Nat) = k + (csum cnField (l.take j) : Nat) + (cnField l[j] : Nat) := by omega
   generalize k + (csum cnField (l.take j) : Nat) = K at hset hkk ⊢
   have hK : 1 ≤ K ∧ K + (cnField l[j] : Nat) ≤ 4611686018427387904 := by omega
   have q0 := @h; refine iU (gI K (by omega)) ?_
   refine aF (j + 1) ?_ ?_ ?_
   ·simp only [go_sem, hkk, ← hset]
    simp [yD, bC, hc]
    try omega
   ·omega
   ·omega
  ·simp only [decide_eq_false_iff_not] at h
   have e : j = l.length := by omega
   subst e
   refine aD ?_
   exact ⟨⟨⟨_, rfl, by simp only [go_sem, fF, List.take_length]⟩, trivial⟩, by simp only [go_sem, fF, List.take_length]⟩
def cnAttr (x : TAttr) : Nat := 4
theorem a7Q : ∀ x, 1 ≤ cnAttr x := fun x => by unfold cnAttr; omega
def zL (x : TAttr) (k : Int) : TAttr := ⟨(nV k), ⟨(k + 1), ((k + 1) + 1), (nV (((k + 1) + 1) + 1))⟩⟩
theorem a4y (l : List TAttr) (k : Int) (hk : 1 ≤ k ∧ k + (csum cnAttr l : Nat) ≤ 4611686018427387904) : FnM Tryz.prog 101 false [.w 0 4 (l.map dJ)] [.w 0 4 ((mkL zL cnAttr l k).map dJ)] k (k + (csum cnAttr l : Nat)) := by
 have hlen := iZ cnAttr a7Q l
 refine entm Tryz.func101 rfl Tryz.call101 rfl (by simp) (by simp only [go_sem]) (fun C tg => ?_); simp only [go_sem, Tryz.ntmps101]
 refine aD ?_
 refine aM (α := Nat) (fun j => [(5, oi j), (1, oi (k + (csum cnAttr (l.take j) : Nat)))]) (fun j => [(0, .own (tg 0) 4 (sH dJ zL cnAttr l k j))]) (fun j => j ≤ l.length) (fun j => l.length - j) 0 (fun _ => ?_) ?_ ?_ (fun j hj => ?_)
 ·simp only [go_sem]
 ·simp only [go_sem]; simp [kJ, csum]
 ·simp
 ·simp only [go_sem]
  refine aD ?_
  refine cnd rfl (fun h => ?_) (fun h => ?_)
  ·simp only [decide_eq_true_eq, Int.ofNat_lt] at h
   have hs := gT cnAttr l h
   have ht := kV cnAttr l (j + 1)
   have hc : cnAttr l[j] = 4 := rfl
   have hset := mU dJ zL cnAttr l k j h
   have hkk : k + (csum cnAttr (l.take (j + 1)) : Nat) = k + (csum cnAttr (l.take j) : Nat) + (cnAttr l[j] : Nat) := by omega
   generalize k + (csum cnAttr (l.take j) : Nat) = K at hset hkk ⊢
   have hK : 1 ≤ K ∧ K + (cnAttr l[j] : Nat) ≤ 4611686018427387904 := by omega
   have q0 := @h; refine a7r (gI K (by omega)) (gI (((K + 1) + 1) + 1) (by omega)) ?_
   refine aF (j + 1) ?_ ?_ ?_
   ·simp only [go_sem, hkk, ← hset]
    simp [zL, dJ, hc]
    try omega
   ·omega
   ·omega
  ·simp only [decide_eq_false_iff_not] at h
   have e : j = l.length := by omega
   subst e
   refine aD ?_
   exact ⟨⟨⟨_, rfl, by simp only [go_sem, fF, List.take_length]⟩, trivial⟩, by simp only [go_sem, fF, List.take_length]⟩
def cnNode (x : TNode) : Nat := 7
theorem a7R : ∀ x, 1 ≤ cnNode x := fun x => by unfold cnNode; omega
def zM (x : TNode) (k : Int) : TNode := ⟨k, (k + 1), ((k + 1) + 1), (nV (((k + 1) + 1) + 1)), ⟨((((k + 1) + 1) + 1) + 1), (((((k + 1) + 1) + 1) + 1) + 1), (nV ((((((k + 1) + 1) + 1) + 1) + 1) + 1))⟩⟩
theorem a4z (l : List TNode) (k : Int) (hk : 1 ≤ k ∧ k + (csum cnNode l : Nat) ≤ 4611686018427387904) : FnM Tryz.prog 54 false [.w 0 7 (l.map bD)] [.w 0 7 ((mkL zM cnNode l k).map bD)] k (k + (csum cnNode l : Nat)) := by
 have hlen := iZ cnNode a7R l
 refine entm Tryz.func54 rfl Tryz.call54 rfl (by simp) (by simp only [go_sem]) (fun C tg => ?_); simp only [go_sem, Tryz.ntmps54]
 refine aD ?_
 refine aM (α := Nat) (fun j => [(5, oi j), (1, oi (k + (csum cnNode (l.take j) : Nat)))]) (fun j => [(0, .own (tg 0) 7 (sH bD zM cnNode l k j))]) (fun j => j ≤ l.length) (fun j => l.length - j) 0 (fun _ => ?_) ?_ ?_ (fun j hj => ?_)
 ·simp only [go_sem]
 ·simp only [go_sem]; simp [kJ, csum]
 ·simp
 ·simp only [go_sem]
  refine aD ?_
  refine cnd rfl (fun h => ?_) (fun h => ?_)
  ·simp only [decide_eq_true_eq, Int.ofNat_lt] at h
   have hs := gT cnNode l h
   have ht := kV cnNode l (j + 1)
   have hc : cnNode l[j] = 7 := rfl
   have hset := mU bD zM cnNode l k j h
   have hkk : k + (csum cnNode (l.take (j + 1)) : Nat) = k + (csum cnNode (l.take j) : Nat) + (cnNode l[j] : Nat) := by omega
   generalize k + (csum cnNode (l.take j) : Nat) = K at hset hkk ⊢
   have hK : 1 ≤ K ∧ K + (cnNode l[j] : Nat) ≤ 4611686018427387904 := by omega
   have q0 := @h; refine a7r (gI (((K + 1) + 1) + 1) (by omega)) (gI ((((((K + 1) + 1) + 1) + 1) + 1) + 1) (by omega)) ?_
   refine aF (j + 1) ?_ ?_ ?_
   ·simp only [go_sem, hkk, ← hset]
    simp [zM, bD, hc]
    try omega
   ·omega
   ·omega
  ·simp only [decide_eq_false_iff_not] at h
   have e : j = l.length := by omega
   subst e
   refine aD ?_
   exact ⟨⟨⟨_, rfl, by simp only [go_sem, fF, List.take_length]⟩, trivial⟩, by simp only [go_sem, fF, List.take_length]⟩
end Go.Proofs.YtakopfjdmmnjcaaGreat
end
section
set_option linter.all false
set_option maxRecDepth 100000
set_option maxHeartbeats 4000000
namespace Go.Proofs.YtakopfjdmmnjcaaGreat
open Go Go.Sx Go.RowKit Go.Proofs
def cnFile (x : TFile) : Nat := 4 + csum cnAttr x.fAttrs
theorem a7S : ∀ x, 1 ≤ cnFile x := fun x => by unfold cnFile; omega
def a1Y (x : TFile) (k : Int) : TFile := ⟨k, (k + 1), (decide (Int.tmod ((k + 1) + 1) 3 = 0)), (((k + 1) + 1) + 1), (mkL zL cnAttr x.fAttrs ((((k + 1) + 1) + 1) + 1))⟩
theorem a4A (l : List TFile) (k : Int) (hk : 1 ≤ k ∧ k + (csum cnFile l : Nat) ≤ 4611686018427387904) : FnM Tryz.prog 52 false [.w 0 5 (l.map bQ)] [.w 0 5 ((mkL a1Y cnFile l k).map bQ)] k (k + (csum cnFile l : Nat)) := by
 have hlen := iZ cnFile a7S l
 refine entm Tryz.func52 rfl Tryz.call52 rfl (by simp) (by simp only [go_sem]) (fun C tg => ?_); simp only [go_sem, Tryz.ntmps52]
 refine aD ?_
 refine aM (α := Nat) (fun j => [(5, oi j), (1, oi (k + (csum cnFile (l.take j) : Nat)))]) (fun j => [(0, .own (tg 0) 5 (sH bQ a1Y cnFile l k j))]) (fun j => j ≤ l.length) (fun j => l.length - j) 0 (fun _ => ?_) ?_ ?_ (fun j hj => ?_)
 ·simp only [go_sem]
 ·simp only [go_sem]; simp [kJ, csum]
 ·simp
 ·simp only [go_sem]
  refine aD ?_
  refine cnd rfl (fun h => ?_) (fun h => ?_)
  ·simp only [decide_eq_true_eq, Int.ofNat_lt] at h
   have hs := gT cnFile l h
   have ht := kV cnFile l (j + 1)
   have hc : cnFile l[j] = 4 + csum cnAttr l[j].fAttrs := rfl
   have hset := mU bQ a1Y cnFile l k j h
   have hkk : k + (csum cnFile (l.take (j + 1)) : Nat) = k + (csum cnFile (l.take j) : Nat) + (cnFile l[j] : Nat) := by omega
   generalize k + (csum cnFile (l.take j) : Nat) = K at hset hkk ⊢
   have hK : 1 ≤ K ∧ K + (cnFile l[j] : Nat) ≤ 4611686018427387904 := by omega
   have qH := @h; repeat' (with_reducible first | refine nY ?_ | (refine mX ?_; try simp only [go_sem, qH]) | refine kD ?_ | refine rD ?_ | refine vN (a4y l[j].fAttrs _ (by omega)) ?_ | refine aO ?_ | fail)
   refine aF (j + 1) ?_ ?_ ?_
   ·simp only [go_sem, hkk, ← hset]
    simp [a1Y, bQ, hc]
    try omega
   ·omega
   ·omega
  ·simp only [decide_eq_false_iff_not] at h
   have e : j = l.length := by omega
   subst e
   refine aD ?_
   exact ⟨⟨⟨_, rfl, by simp only [go_sem, fF, List.take_length]⟩, trivial⟩, by simp only [go_sem, fF, List.take_length]⟩
def cnDir (x : TDir) : Nat := 1 + csum cnNode x.fQuery
theorem a9Z : ∀ x, 1 ≤ cnDir x := fun x => by unfold cnDir; omega
def a8R (x : TDir) (k : Int) : TDir := ⟨(nV k), (mkL zM cnNode x.fQuery (k + 1))⟩
theorem a6d (l : List TDir) (k : Int) (hk : 1 ≤ k ∧ k + (csum cnDir l : Nat) ≤ 4611686018427387904) : FnM Tryz.prog 23 false [.w 0 2 (l.map bH)] [.w 0 2 ((mkL a8R cnDir l k).map bH)] k (k + (csum cnDir l : Nat)) := by
 have hlen := iZ cnDir a9Z l
 refine entm Tryz.func23 rfl Tryz.call23 rfl (by simp) (by simp only [go_sem]) (fun C tg => ?_); simp only [go_sem, Tryz.ntmps23]
 refine aD ?_
 refine aM (α := Nat) (fun j => [(5, oi j), (1, oi (k + (csum cnDir (l.take j) : Nat)))]) (fun j => [(0, .own (tg 0) 2 (sH bH a8R cnDir l k j))]) (fun j => j ≤ l.length) (fun j => l.length - j) 0 (fun _ => ?_) ?_ ?_ (fun j hj => ?_)
 ·simp only [go_sem]
 ·simp only [go_sem]; simp [kJ, csum]
 ·simp
 ·simp only [go_sem]
  refine aD ?_
  refine cnd rfl (fun h => ?_) (fun h => ?_)
  ·simp only [decide_eq_true_eq, Int.ofNat_lt] at h
   have hs := gT cnDir l h
   have ht := kV cnDir l (j + 1)
   have hc : cnDir l[j] = 1 + csum cnNode l[j].fQuery := rfl
   have hset := mU bH a8R cnDir l k j h
   have hkk : k + (csum cnDir (l.take (j + 1)) : Nat) = k + (csum cnDir (l.take j) : Nat) + (cnDir l[j] : Nat) := by omega
   generalize k + (csum cnDir (l.take j) : Nat) = K at hset hkk ⊢
   have hK : 1 ≤ K ∧ K + (cnDir l[j] : Nat) ≤ 4611686018427387904 := by omega
   have qH := @h; repeat' (with_reducible first | refine nY ?_ | (refine mX ?_; try simp only [go_sem, qH]) | refine kD ?_ | refine rD ?_ | refine cP (gI K (by omega)) ?_ | refine vN (a4z l[j].fQuery _ (by omega)) ?_ | refine aO ?_ | fail)
   refine aF (j + 1) ?_ ?_ ?_
   ·simp only [go_sem, hkk, ← hset]
    simp [a8R, bH, hc]
    try omega
   ·omega
   ·omega
  ·simp only [decide_eq_false_iff_not] at h
   have e : j = l.length := by omega
   subst e
   refine aD ?_
   exact ⟨⟨⟨_, rfl, by simp only [go_sem, fF, List.take_length]⟩, trivial⟩, by simp only [go_sem, fF, List.take_length]⟩
def b5B (x : TResult) : Nat := 1 + csum cnInt x.fIDs
def b5C (x : TResult) (k : Int) : TResult := ⟨(nV k), (mkL tN cnInt x.fIDs (k + 1))⟩
def b6j (x : TDiff) : Nat := 1 + csum cnInt x.fAdded + csum cnInt x.fRemoved
def b6k (x : TDiff) (k : Int) : TDiff := ⟨(nV k), (mkL tN cnInt x.fAdded (k + 1)), (mkL tN cnInt x.fRemoved ((k + 1) + (csum cnInt x.fAdded : Nat)))⟩
def cnGroup (x : TGroup) : Nat := 3 + csum cnInt x.fIDs
theorem a0q : ∀ x, 1 ≤ cnGroup x := fun x => by unfold cnGroup; omega
def rP (x : TGroup) (k : Int) : TGroup := ⟨⟨k, (k + 1), (nV ((k + 1) + 1))⟩, (mkL tN cnInt x.fIDs (((k + 1) + 1) + 1))⟩
theorem a2F (l : List TGroup) (k : Int) (hk : 1 ≤ k ∧ k + (csum cnGroup l : Nat) ≤ 4611686018427387904) : FnM Tryz.prog 24 false [.w 0 4 (l.map eG)] [.w 0 4 ((mkL rP cnGroup l k).map eG)] k (k + (csum cnGroup l : Nat)) := by
 have hlen := iZ cnGroup a0q l
 refine entm Tryz.func24 rfl Tryz.call24 rfl (by simp) (by simp only [go_sem]) (fun C tg => ?_); simp only [go_sem, Tryz.ntmps24]
 refine aD ?_
 refine aM (α := Nat) (fun j => [(5, oi j), (1, oi (k + (csum cnGroup (l.take j) : Nat)))]) (fun j => [(0, .own (tg 0) 4 (sH eG rP cnGroup l k j))]) (fun j => j ≤ l.length) (fun j => l.length - j) 0 (fun _ => ?_) ?_ ?_ (fun j hj => ?_)
 ·simp only [go_sem]
 ·simp only [go_sem]; simp [kJ, csum]
 ·simp
 ·simp only [go_sem]
  refine aD ?_
  refine cnd rfl (fun h => ?_) (fun h => ?_)
  ·simp only [decide_eq_true_eq, Int.ofNat_lt] at h
   have hs := gT cnGroup l h
   have ht := kV cnGroup l (j + 1)
   have hc : cnGroup l[j] = 3 + csum cnInt l[j].fIDs := rfl
   have hset := mU eG rP cnGroup l k j h
   have hkk : k + (csum cnGroup (l.take (j + 1)) : Nat) = k + (csum cnGroup (l.take j) : Nat) + (cnGroup l[j] : Nat) := by omega
   generalize k + (csum cnGroup (l.take j) : Nat) = K at hset hkk ⊢
   have hK : 1 ≤ K ∧ K + (cnGroup l[j] : Nat) ≤ 4611686018427387904 := by omega
   have qH := @h; repeat' (with_reducible first | refine nY ?_ | (refine mX ?_; try simp only [go_sem, qH]) | refine kD ?_ | refine rD ?_ | refine cP (gI ((K + 1) + 1) (by omega)) ?_ | refine vN (a6a l[j].fIDs _ (by omega)) ?_ | refine aO ?_ | fail)
   refine aF (j + 1) ?_ ?_ ?_
   ·simp only [go_sem, hkk, ← hset]
    simp [rP, eG, hc]
    try omega
   ·omega
   ·omega
  ·simp only [decide_eq_false_iff_not] at h
   have e : j = l.length := by omega
   subst e
   refine aD ?_
   exact ⟨⟨⟨_, rfl, by simp only [go_sem, fF, List.take_length]⟩, trivial⟩, by simp only [go_sem, fF, List.take_length]⟩
theorem vF (l : List TGroup) (k : Int) (hk : 1 ≤ k ∧ k + (csum cnGroup l : Nat) ≤ 4611686018427387904) : FnC Tryz.prog 25 [.o (.d (.sl ((mkL rP cnGroup l k).map eG))), oi k] (oi (k + (csum cnGroup l : Nat))) := by
 have hlen := iZ cnGroup a0q l
 refine ent Tryz.func25 rfl Tryz.call25 rfl (fun C => ?_); simp only [go_sem, st0, Tryz.ntmps25]
 refine aD ?_
 refine aM (α := Nat) (fun j => [(5, oi j), (1, oi (k + (csum cnGroup (l.take j) : Nat)))]) (fun _ => []) (fun j => j ≤ l.length) (fun j => l.length - j) 0 (fun _ => ?_) ?_ ?_ (fun j hj => ?_)
 ·simp only [go_sem]
 ·simp only [go_sem]; simp [csum]
 ·simp
 ·simp only [go_sem]
  refine aD ?_
  refine cnd rfl (fun h => ?_) (fun h => ?_)
  ·simp only [decide_eq_true_eq, Int.ofNat_lt] at h
   have hs := gT cnGroup l h
   have ht := kV cnGroup l (j + 1)
   have hc : cnGroup l[j] = 3 + csum cnInt l[j].fIDs := rfl
   have hkk : k + (csum cnGroup (l.take (j + 1)) : Nat) = k + (csum cnGroup (l.take j) : Nat) + (cnGroup l[j] : Nat) := by omega
   have hg := xA rP cnGroup l k j (by rw [fM]; exact h)
   generalize k + (csum cnGroup (l.take j) : Nat) = K at hg hkk ⊢
   have hK : 1 ≤ K ∧ K + (cnGroup l[j] : Nat) ≤ 4611686018427387904 := by omega
   have hneg0 : ¬ ((((K + 1) + 1) + 1) + (csum cnInt l[j].fIDs : Nat) < 0) := by omega
   repeat' (with_reducible first | refine nY ?_ | (refine mX ?_; try simp only [go_sem, h, hg, rP, hneg0]) | refine kO ?_ (by decide) | refine regd (by kernel_rfl) ?_ | (refine cC (gI ((K + 1) + 1) (by omega)) ?_ ?_; focus simp only [go_sem, and_self]; done) | (refine cC (a6b l[j].fIDs (((K + 1) + 1) + 1) (by omega)) ?_ ?_; focus simp only [go_sem, and_self]; done) | (refine And.intro ?_ ?_; focus omega))
   refine aF (j + 1) ?_ ?_ ?_
   ·simp only [go_sem, hkk]
    simp [hc]
    try omega
   ·omega
   ·omega
  ·simp only [decide_eq_false_iff_not] at h
   have e : j = l.length := by omega
   subst e
   refine aD ?_
   exact aA ⟨⟨_, rfl, by simp only [go_sem, List.take_length]⟩, trivial⟩
def b5D (x : TChange) : Nat := 7 + csum cnAttr x.fFile.fAttrs + csum cnNode x.fDir.fQuery
def b5E (x : TChange) (k : Int) : TChange := ⟨k, ⟨(k + 1), ((k + 1) + 1), (decide (Int.tmod (((k + 1) + 1) + 1) 3 = 0)), ((((k + 1) + 1) + 1) + 1), (mkL zL cnAttr x.fFile.fAttrs (((((k + 1) + 1) + 1) + 1) + 1))⟩, ((((((k + 1) + 1) + 1) + 1) + 1) + (csum cnAttr x.fFile.fAttrs : Nat)), ⟨(nV (((((((k + 1) + 1) + 1) + 1) + 1) + (csum cnAttr x.fFile.fAttrs : Nat)) + 1)), (mkL zM cnNode x.fDir.fQuery ((((((((k + 1) + 1) + 1) + 1) + 1) + (csum cnAttr x.fFile.fAttrs : Nat)) + 1) + 1))⟩⟩
end Go.Proofs.YtakopfjdmmnjcaaGreat
end
section
set_option linter.all false
set_option maxRecDepth 100000
set_option maxHeartbeats 4000000
namespace Go.Proofs.YtakopfjdmmnjcaaGreat
open Go Go.Sx Go.RowKit Go.Proofs
theorem a4B (x : TStore) (k : Int) (hk : 1 ≤ k ∧ k + (csum cnField x.fSchema : Nat) + (csum cnFile x.fFiles : Nat) ≤ 4611686018427387904) : FnM Tryz.prog 22 true [.w 0 2 (x.fSchema.map bC), .w 0 5 (x.fFiles.map bQ), .d (iv x.fNextID)] [.w 0 2 ((mkL yD cnField x.fSchema (k)).map bC), .w 0 5 ((mkL a1Y cnFile x.fFiles (k + (csum cnField x.fSchema : Nat))).map bQ), .d (iv x.fNextID)] k (k + (csum cnField x.fSchema : Nat) + (csum cnFile x.fFiles : Nat)) := by
 refine entm Tryz.func22 rfl Tryz.call22 rfl (by simp) (by simp only [go_sem]) (fun C tg => ?_); simp only [go_sem, Tryz.ntmps22]
 have qH := trivial; repeat' (with_reducible first | refine nY ?_ | (refine mX ?_; try simp only [go_sem]) | refine kD ?_ | refine rD ?_ | refine vM (a2E x.fSchema _ (by omega)) ?_ | refine vM (a4A x.fFiles _ (by omega)) ?_ | refine aO ?_ | fail)
 exact ⟨⟨⟨_, rfl, by simp only [go_sem]⟩, trivial⟩, by simp only [go_sem]⟩
end Go.Proofs.YtakopfjdmmnjcaaGreat
end
section
set_option linter.all false
namespace Go.Proofs.YtakopfjdmmnjcaaGreat
open Go Go.Sx Go.RowKit Go.Proofs
theorem rQ {α : Type} (cn w : α → Nat) (c : Nat) (hx : ∀ x, cn x ≤ c * (1 + w x)) : ∀ l : List α, csum cn l ≤ c * (l.length + wsum w l)
 | [] => by simp [csum]
 | x :: l => by
  have h1 := rQ cn w c hx l
  have h2 := hx x
  simp only [csum, wsum, List.length_cons]
  have : c * (l.length + 1 + (w x + wsum w l)) = c * (1 + w x) + c * (l.length + wsum w l) := by rw [← Nat.mul_add]; congr 1; omega
  omega
theorem nE {α : Type} (cn : α → Nat) (c : Nat) (hx : ∀ x, cn x = c) : ∀ l : List α, csum cn l = c * l.length
 | [] => by simp [csum]
 | x :: l => by
  have h1 := nE cn c hx l
  simp only [csum, List.length_cons, hx, h1, Nat.mul_add]; omega
theorem b3d (l : List Int) : csum cnInt l = l.length := by rw [nE cnInt 1 (fun _ => rfl)]; omega
theorem b0a (l : List TField) : csum cnField l = 2 * l.length := nE cnField 2 (fun _ => rfl) l
theorem b1J (l : List TAttr) : csum cnAttr l = 4 * l.length := nE cnAttr 4 (fun _ => rfl) l
theorem b1K (l : List TNode) : csum cnNode l = 7 * l.length := nE cnNode 7 (fun _ => rfl) l
theorem b0b (l : List TGroup) : csum cnGroup l ≤ 3 * (l.length + wsum oN l) := rQ cnGroup oN 3 (fun x => by
 unfold cnGroup oN; rw [b3d]; omega) l
theorem b1L (l : List TFile) : csum cnFile l ≤ 4 * (l.length + wsum wFile l) := rQ cnFile wFile 4 (fun x => by
 unfold cnFile wFile dV; rw [b1J]; omega) l
theorem b3e (l : List TDir) : csum cnDir l ≤ 7 * (l.length + wsum wDir l) := rQ cnDir wDir 7 (fun x => by
 unfold cnDir wDir bW; rw [b1K]; omega) l
end Go.Proofs.YtakopfjdmmnjcaaGreat
end
end
section
set_option maxRecDepth 100000
set_option maxHeartbeats 4000000
namespace Go.Proofs.YtakopfjdmmnjcaaGreat
open Go Go.Sx Go.RowKit Go.Proofs
def nD (l : List ByteArray) (s : ByteArray) : Bool := l.any fun x => decide (x = s)
theorem a9Y (l : List ByteArray) (s : ByteArray) (hl : l.length ≤ 4300000) : FnC Tryz.prog 188 [.o (.d (.sl (l.map gW))), os s] (oi (idxP (fun x => decide (s = x)) l 0)) := by
 refine ent Tryz.func188 rfl Tryz.call188 rfl (fun C => ?_); simp only [go_sem, st0, Tryz.ntmps188]
 refine aD ?_
 refine aM (α := Nat) (fun k => [(8, oi k)]) (fun _ => []) (fun k => k ≤ l.length ∧ idxP (fun x => decide (s = x)) l 0 = idxP (fun x => decide (s = x)) (l.drop k) k) (fun k => l.length - k) 0 (fun _ => ?_) ?_ ?_ (fun k hk => ?_)
 ·simp only [go_sem]
 ·simp only [go_sem]; simp
 ·simp
 ·obtain ⟨hk, hq⟩ := hk
  simp only [go_sem]
  refine aD ?_
  refine cnd rfl (fun h => ?_) (fun h => ?_)
  ·simp only [decide_eq_true_eq, Int.ofNat_lt] at h
   have hd := List.drop_eq_getElem_cons h
   rw [hd, idxP] at hq
   have q0 := @h; refine iB ?_
   refine cnd rfl (fun h2 => ?_) (fun h2 => ?_)
   ·refine aD ?_
    exact aA ⟨⟨_, rfl, by simp only [go_sem, hq, h2]⟩, trivial⟩
   ·refine aD ?_
    refine aF (k + 1) ?_ ?_ ?_
    ·simp only [go_sem]; simp
    ·rw [hq, h2]; exact ⟨h, by simp⟩
    ·omega
  ·simp only [decide_eq_false_iff_not] at h
   have e : k = l.length := by omega
   subst e
   simp only [List.drop_length, idxP] at hq
   refine aD ?_
   exact aA ⟨⟨_, rfl, by simp only [go_sem, hq]⟩, trivial⟩
theorem a1X {α : Type} (p : α → Bool) : ∀ (l : List α) (k : Nat), decide (0 ≤ idxP p l k) = l.any p
 | [], _ => by simp [idxP]
 | x :: xs, k => by
  simp only [idxP, List.any_cons]
  by_cases h : p x = true
  ·simp [h]
  ·rw [Bool.not_eq_true] at h
   simpa [h] using a1X p xs (k + 1)
theorem b1I (l : List ByteArray) (s : ByteArray) : decide (0 ≤ idxP (fun x => decide (s = x)) l 0) = nD l s := by
 rw [a1X]; unfold nD
 congr 1; funext x; congr 1; exact propext eq_comm
theorem eP (l : List ByteArray) (s : ByteArray) (hl : l.length ≤ 4300000) : FnC Tryz.prog 171 [.o (.d (.sl (l.map gW))), os s] (ob (nD l s)) := by
 refine ent Tryz.func171 rfl Tryz.call171 rfl (fun C => ?_); simp only [go_sem, st0, Tryz.ntmps171]
 refine iL (a9Y l s hl) ?_
 exact aA ⟨⟨_, rfl, by simp only [go_sem, b1I]⟩, trivial⟩
def dirNs (l : List TDir) : List ByteArray := l.map TDir.fName
theorem zK (l : List TDir) : (dirNs l).length = l.length := by simp [dirNs]
theorem a0p (l : List TDir) (hl : l.length ≤ 4300000) : FnC Tryz.prog 154 [.o (.d (.sl (l.map bH)))] (.o (.w 9 1 ((dirNs l).map gW))) := by
 refine ent Tryz.func154 rfl Tryz.call154 rfl (fun C => ?_); simp only [go_sem, st0, Tryz.ntmps154]
 refine aD ?_
 refine aM (α := Nat) (fun k => [(3, .o (.s 0)), (6, .o .u), (9, oi k)]) (fun k => [(0, .row 9 1 ((dirNs (l.take k)).map gW) true)]) (fun k => k ≤ l.length) (fun k => l.length - k) 0 (fun _ => ?_) ?_ ?_ (fun k hk => ?_)
 ·simp only [go_sem]
 ·simp only [go_sem]; simp [dirNs]
 ·simp
 ·simp only [go_sem]
  refine aD ?_
  refine cnd rfl (fun h1 => ?_) (fun h1 => ?_)
  ·simp only [decide_eq_true_eq, Int.ofNat_lt] at h1
   have ht : dirNs (l.take (k + 1)) = dirNs (l.take k) ++ [l[k].fName] := by simp only [dirNs, List.take_succ_eq_append_getElem h1, List.map_append, List.map_cons, List.map_nil]
   have hlen : (dirNs (l.take k)).length = k := by rw [zK]; simp; omega
   have q0 := @h1; have q1 := @hlen; refine jB ?_
   refine aF (k + 1) ?_ ?_ ?_
   ·simp only [go_sem, ht, List.map_append]; simp
   ·omega
   ·omega
  ·simp only [decide_eq_false_iff_not] at h1
   have e : k = l.length := by omega
   subst e
   refine aD ?_
   exact aA ⟨⟨_, rfl, by simp only [go_sem, List.take_length]⟩, trivial⟩
def uD (names : List ByteArray) (l : List TDir) : List ByteArray := (dirNs l).filter fun n => !nD names n
end Go.Proofs.YtakopfjdmmnjcaaGreat
end
section
namespace Go.Proofs.YtakopfjdmmnjcaaGreat
open Go Go.Sx Go.RowKit Go.Proofs
def getAttr (name : ByteArray) : List TAttr → TValue
 | [] => ⟨0, 0, ⟨#[]⟩⟩
 | a :: r => if a.fName = name then a.fValue else getAttr name r
theorem iG (x : TFile) (name : ByteArray) (h : wFile x ≤ 4300000) : FnC Tryz.prog 73 [jC x, os name] (jG (getAttr name x.fAttrs)) := by
 unfold wFile dV at h
 generalize hg : getAttr name x.fAttrs = res
 refine ent Tryz.func73 rfl Tryz.call73 rfl (fun C => ?_); simp only [go_sem, st0, Tryz.ntmps73]
 refine aD ?_
 refine aM (α := Nat) (fun k => [(10, oi k)]) (fun _ => []) (fun k => k ≤ x.fAttrs.length ∧ getAttr name (x.fAttrs.drop k) = res) (fun k => x.fAttrs.length - k) 0 (fun _ => ?_) ?_ ?_ (fun k hk => ?_)
 ·simp only [go_sem]
 ·simp only [go_sem]; simp
 ·simp [hg]
 ·obtain ⟨hk, hq⟩ := hk
  simp only [go_sem]
  refine aD ?_
  refine cnd rfl (fun h => ?_) (fun h => ?_)
  ·simp only [decide_eq_true_eq, Int.ofNat_lt] at h
   have hd := List.drop_eq_getElem_cons h
   rw [hd, getAttr] at hq
   by_cases h1 : x.fAttrs[k].fName = name
   ·rw [if_pos h1] at hq
    subst hq
    have q0 := @h; have q1 := @h1; refine jB ?_
    exact aA ⟨⟨_, rfl, by simp only [go_sem]⟩, trivial⟩
   ·rw [if_neg h1] at hq
    have q0 := @h; have q1 := @h1; refine jB ?_
    refine aF (k + 1) ?_ ?_ ?_
    ·simp only [go_sem]; simp
    ·exact ⟨h, hq⟩
    ·omega
  ·simp only [decide_eq_false_iff_not] at h
   have e : k = x.fAttrs.length := by omega
   rw [e, List.drop_length, getAttr] at hq
   subst hq
   refine aD ?_
   exact aA ⟨⟨_, rfl, by simp only [go_sem]⟩, trivial⟩
theorem cK (x : TFile) (name : ByteArray) (h : wFile x ≤ 4300000) : FnC Tryz.prog 86 [jC x, os name] (jG (getAttr name x.fAttrs)) := by
 unfold wFile dV at h
 generalize hg : getAttr name x.fAttrs = res
 refine ent Tryz.func86 rfl Tryz.call86 rfl (fun C => ?_); simp only [go_sem, st0, Tryz.ntmps86]
 refine aD ?_
 refine aM (α := Nat) (fun k => [(5, oi k)]) (fun _ => []) (fun k => k ≤ x.fAttrs.length ∧ getAttr name (x.fAttrs.drop k) = res) (fun k => x.fAttrs.length - k) 0 (fun _ => ?_) ?_ ?_ (fun k hk => ?_)
 ·simp only [go_sem]
 ·simp only [go_sem]; simp
 ·simp [hg]
 ·obtain ⟨hk, hq⟩ := hk
  simp only [go_sem]
  refine aD ?_
  refine cnd rfl (fun h => ?_) (fun h => ?_)
  ·simp only [decide_eq_true_eq, Int.ofNat_lt] at h
   have hd := List.drop_eq_getElem_cons h
   rw [hd, getAttr] at hq
   by_cases h1 : x.fAttrs[k].fName = name
   ·rw [if_pos h1] at hq
    subst hq
    have q0 := @h; have q1 := @h1; refine jB ?_
    exact aA ⟨⟨_, rfl, by simp only [go_sem]⟩, trivial⟩
   ·rw [if_neg h1] at hq
    have q0 := @h; have q1 := @h1; refine jB ?_
    refine aF (k + 1) ?_ ?_ ?_
    ·simp only [go_sem]; simp
    ·exact ⟨h, hq⟩
    ·omega
  ·simp only [decide_eq_false_iff_not] at h
   have e : k = x.fAttrs.length := by omega
   rw [e, List.drop_length, getAttr] at hq
   subst hq
   refine aD ?_
   exact aA ⟨⟨_, rfl, by simp only [go_sem]⟩, trivial⟩
end Go.Proofs.YtakopfjdmmnjcaaGreat
end
section
set_option maxRecDepth 100000
set_option maxHeartbeats 4000000
namespace Go.Proofs.YtakopfjdmmnjcaaGreat
def vH (x v : TValue) : Bool := decide (x.fKind = v.fKind) && (decide (x.fInt = v.fInt) && decide (x.fStr = v.fStr))
def hasI (l : List Int) (i : Int) : Bool := l.any fun x => decide (x = i)
def bF (s : ByteArray) : List TResult → List Int
 | [] => []
 | x :: r => if x.fName = s then x.fIDs else bF s r
def a1Z (v : TValue) (n : Int) : Bool := decide (v.fKind = 1) && decide (v.fInt < n)
def mt (q : List TNode) (f : TFile) (r : List TResult) : Nat → Nat → Bool
 | 0, _ => false
 | k + 1, i => match q[i]? with
  | none => false
  | some n =>
   if n.fOp = 1 then true
   else if n.fOp = 2 then !decide ((getAttr n.fName f.fAttrs).fKind = 0)
   else if n.fOp = 3 then vH (getAttr n.fName f.fAttrs) n.fValue
   else if n.fOp = 4 then a1Z (getAttr n.fName f.fAttrs) n.fValue.fInt
   else if n.fOp = 5 then !mt q f r k n.fLeft.toNat
   else if n.fOp = 6 then mt q f r k n.fLeft.toNat && mt q f r k n.fRight.toNat
   else if n.fOp = 7 then mt q f r k n.fLeft.toNat || mt q f r k n.fRight.toNat
   else if n.fOp = 8 then hasI (bF n.fName r) f.fID
   else !decide (f.fLink = 0) && hasI (bF n.fName r) f.fLink
end Go.Proofs.YtakopfjdmmnjcaaGreat
end
section
set_option maxRecDepth 100000
set_option maxHeartbeats 4000000
namespace Go.Proofs.YtakopfjdmmnjcaaGreat
open Go Go.Sx Go.RowKit Go.Proofs
theorem a9W (l : List Int) (s : Int) (k : Nat) (h : k < l.length) : hasI (l.drop k) s = (decide (l[k] = s) || hasI (l.drop (k + 1)) s) := by
 rw [List.drop_eq_getElem_cons h]; rfl
theorem a9X (l : List Int) (s : Int) (hl : l.length ≤ 67108864) : FnC Tryz.prog 216 [.o (.d (.sl (l.map fA))), oi s] (oi (idxP (fun x => decide (s = x)) l 0)) := by
 refine ent Tryz.func216 rfl Tryz.call216 rfl (fun C => ?_); simp only [go_sem, st0, Tryz.ntmps216]
 refine aD ?_
 refine aM (α := Nat) (fun k => [(8, oi k)]) (fun _ => []) (fun k => k ≤ l.length ∧ idxP (fun x => decide (s = x)) l 0 = idxP (fun x => decide (s = x)) (l.drop k) k) (fun k => l.length - k) 0 (fun _ => ?_) ?_ ?_ (fun k hk => ?_)
 ·simp only [go_sem]
 ·simp only [go_sem]; simp
 ·simp
 ·obtain ⟨hk, hq⟩ := hk
  simp only [go_sem]
  refine aD ?_
  refine cnd rfl (fun h => ?_) (fun h => ?_)
  ·simp only [decide_eq_true_eq, Int.ofNat_lt] at h
   have hd := List.drop_eq_getElem_cons h
   rw [hd, idxP] at hq
   have q0 := @h; refine iB ?_
   refine cnd (b := decide (s = l[k])) rfl (fun h2 => ?_) (fun h2 => ?_)
   ·rw [if_pos h2] at hq
    refine aD ?_
    exact aA ⟨⟨_, rfl, by simp only [go_sem, hq]⟩, trivial⟩
   ·rw [if_neg (by simp [h2])] at hq
    refine aD ?_
    refine aF (k + 1) ?_ ?_ ?_
    ·simp only [go_sem]; simp
    ·rw [hq]; exact ⟨h, by simp⟩
    ·omega
  ·simp only [decide_eq_false_iff_not] at h
   have e : k = l.length := by omega
   subst e
   simp only [List.drop_length, idxP] at hq
   refine aD ?_
   exact aA ⟨⟨_, rfl, by simp only [go_sem, hq]⟩, trivial⟩
theorem b1H (l : List Int) (s : Int) : decide (0 ≤ idxP (fun x => decide (s = x)) l 0) = hasI l s := by
 rw [a1X]; unfold hasI
 congr 1; funext x; congr 1; exact propext eq_comm
theorem a4x (l : List Int) (s : Int) (hl : l.length ≤ 67108864) : FnC Tryz.prog 213 [.o (.d (.sl (l.map fA))), oi s] (ob (hasI l s)) := by
 refine ent Tryz.func213 rfl Tryz.call213 rfl (fun C => ?_); simp only [go_sem, st0, Tryz.ntmps213]
 refine iL (a9X l s hl) ?_
 exact aA ⟨⟨_, rfl, by simp only [go_sem, b1H]⟩, trivial⟩
theorem jX (l : List Int) (s : Int) (hl : l.length ≤ 67108864) : FnC Tryz.prog 208 [.o (.d (.sl (l.map fA))), oi s] (ob (hasI l s)) := by
 refine ent Tryz.func208 rfl Tryz.call208 rfl (fun C => ?_); simp only [go_sem, st0, Tryz.ntmps208]
 refine iL (a4x l s hl) ?_
 exact aA ⟨⟨_, rfl, by simp only [go_sem]⟩, trivial⟩
theorem jY (l : List Int) (s : Int) (hl : l.length ≤ 67108864) : FnC Tryz.prog 209 [.o (.d (.sl (l.map fA))), oi s] (ob (hasI l s)) := by
 refine ent Tryz.func209 rfl Tryz.call209 rfl (fun C => ?_); simp only [go_sem, st0, Tryz.ntmps209]
 refine aD ?_
 refine aM (α := Nat) (fun k => [(5, oi k)]) (fun k => []) (fun k => k ≤ l.length ∧ hasI (l.drop k) s = hasI l s) (fun k => l.length - k) 0 (fun _ => ?_) ?_ ?_ (fun k hk => ?_)
 ·simp only [go_sem]; try simp
 ·simp only [go_sem]; try simp
 ·simp
 ·simp only [go_sem]
  obtain ⟨hk, hg⟩ := hk
  refine aD ?_
  refine cnd rfl (fun h1 => ?_) (fun h1 => ?_)
  ·simp only [decide_eq_true_eq, Int.ofNat_lt] at h1
   have hd := a9W l s k h1
   rw [hg] at hd
   have q0 := @h1; refine iB ?_
   refine cnd rfl (fun hv => ?_) (fun hv => ?_)
   ·rw [hv, Bool.true_or] at hd
    refine aD ?_
    exact aA ⟨⟨_, rfl, by simp only [go_sem, hd]⟩, trivial⟩
   ·rw [hv, Bool.false_or] at hd
    refine aD ?_
    refine aF (k + 1) ?_ ?_ ?_
    ·simp only [go_sem]; try simp
    ·exact ⟨by omega, hd.symm⟩
    ·omega
  ·simp only [decide_eq_false_iff_not] at h1
   have e : k = l.length := by omega
   subst e
   have hn : hasI l s = false := by rw [← hg, List.drop_length]; rfl
   refine aD ?_
   exact aA ⟨⟨_, rfl, by simp only [go_sem, hn]⟩, trivial⟩
theorem a0o (s : ByteArray) (l : List TResult) (k : Nat) (h : k < l.length) : bF s (l.drop k) = if l[k].fName = s then l[k].fIDs else bF s (l.drop (k + 1)) := by
 rw [List.drop_eq_getElem_cons h]; rfl
theorem vE (l : List TResult) (s : ByteArray) (hl : aW l ≤ 67108864) : FnC Tryz.prog 84 [.o (.d (.sl (l.map aQ))), os s] (.o (.w 3 1 ((bF s l).map fA))) := by
 unfold aW at hl
 generalize hg : bF s l = res
 refine ent Tryz.func84 rfl Tryz.call84 rfl (fun C => ?_); simp only [go_sem, st0, Tryz.ntmps84]
 refine aD ?_
 refine aM (α := Nat) (fun k => [(9, oi k)]) (fun k => []) (fun k => k ≤ l.length ∧ bF s (l.drop k) = res) (fun k => l.length - k) 0 (fun _ => ?_) ?_ ?_ (fun k hk => ?_)
 ·simp only [go_sem]; try simp
 ·simp only [go_sem]; try simp
 ·simp [hg]
 ·simp only [go_sem]
  obtain ⟨hk, hq⟩ := hk
  refine aD ?_
  refine cnd rfl (fun h1 => ?_) (fun h1 => ?_)
  ·simp only [decide_eq_true_eq, Int.ofNat_lt] at h1
   rw [a0o s l k h1] at hq
   by_cases hv : l[k].fName = s
   ·rw [if_pos hv] at hq
    have hw := bB jD l h1
    have hwl : l[k].fIDs.length ≤ jD l[k] := by unfold jD; omega
    have q0 := @h1; have q1 := @hv; refine qX (a5Z l[k].fIDs (by omega)) ?_
    exact aA ⟨⟨_, rfl, by simp only [go_sem, hq]⟩, trivial⟩
   ·rw [if_neg hv] at hq
    have q0 := @h1; have q1 := @hv; refine jB ?_
    refine aF (k + 1) ?_ ?_ ?_
    ·simp only [go_sem]; try simp
    ·exact ⟨by omega, hq⟩
    ·omega
  ·simp only [decide_eq_false_iff_not] at h1
   have e : k = l.length := by omega
   subst e
   rw [List.drop_length] at hq
   have hn : res = [] := hq.symm
   subst hn
   refine aD ?_
   exact aA ⟨⟨_, rfl, by simp only [go_sem]⟩, trivial⟩
theorem a2D (l : List TResult) (s : ByteArray) (hl : aW l ≤ 67108864) : FnC Tryz.prog 89 [.o (.d (.sl (l.map aQ))), os s] (.o (.w 3 1 ((bF s l).map fA))) := by
 unfold aW at hl
 generalize hg : bF s l = res
 refine ent Tryz.func89 rfl Tryz.call89 rfl (fun C => ?_); simp only [go_sem, st0, Tryz.ntmps89]
 refine aD ?_
 refine aM (α := Nat) (fun k => [(5, oi k)]) (fun k => []) (fun k => k ≤ l.length ∧ bF s (l.drop k) = res) (fun k => l.length - k) 0 (fun _ => ?_) ?_ ?_ (fun k hk => ?_)
 ·simp only [go_sem]; try simp
 ·simp only [go_sem]; try simp
 ·simp [hg]
 ·simp only [go_sem]
  obtain ⟨hk, hq⟩ := hk
  refine aD ?_
  refine cnd rfl (fun h1 => ?_) (fun h1 => ?_)
  ·simp only [decide_eq_true_eq, Int.ofNat_lt] at h1
   rw [a0o s l k h1] at hq
   by_cases hv : l[k].fName = s
   ·rw [if_pos hv] at hq
    have hw := bB jD l h1
    have hwl : l[k].fIDs.length ≤ jD l[k] := by unfold jD; omega
    have q0 := @h1; have q1 := @hv; refine jB ?_
    exact aA ⟨⟨_, rfl, by simp only [go_sem, hq]⟩, trivial⟩
   ·rw [if_neg hv] at hq
    have q0 := @h1; have q1 := @hv; refine jB ?_
    refine aF (k + 1) ?_ ?_ ?_
    ·simp only [go_sem]; try simp
    ·exact ⟨by omega, hq⟩
    ·omega
  ·simp only [decide_eq_false_iff_not] at h1
   have e : k = l.length := by omega
   subst e
   rw [List.drop_length] at hq
   have hn : res = [] := hq.symm
   subst hn
   refine aD ?_
   exact aA ⟨⟨_, rfl, by simp only [go_sem]⟩, trivial⟩
end Go.Proofs.YtakopfjdmmnjcaaGreat
end
section
namespace Go.Proofs.YtakopfjdmmnjcaaGreat
open Go Go.Sx Go.RowKit Go.Proofs
def b3c (a b : List Int) : List Int := a.filter fun x => !hasI b x
def b5A (a : List TResult) (x : TResult) : List TDiff :=
 if 0 < (b3c x.fIDs (bF x.fName a)).length + (b3c (bF x.fName a) x.fIDs).length then [⟨x.fName, b3c x.fIDs (bF x.fName a), b3c (bF x.fName a) x.fIDs⟩] else []
def b3H (a b : List TResult) : List TDiff := b.flatMap (b5A a)
end Go.Proofs.YtakopfjdmmnjcaaGreat
end
