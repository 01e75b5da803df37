/- Joined texts. -/
import Derived.Test.YtddimbdeggomaaaGreatZ06
set_option linter.all false
section
set_option maxRecDepth 100000
set_option maxHeartbeats 4000000
namespace Go.Proofs.YtddimbdeggomaaaGreat
open Go Go.Sx Go.RowKit Go.Proofs Go.Lib
set_option maxHeartbeats 4000000 in
set_option maxRecDepth 1000000 in
theorem a8C (b cap : Nat) (xs : List Int) (w : World) (p : Int → Bool) (g : Nat) (lb : Array Value) (hR : RowAt w w b 3 cap (xs.map (Value.int .i64))) (hn : xs.length ≤ cap) (hbig : cap ≤ 9223372036854775807) (k : Int)
    (hk : (k = -1 ∧ ∀ x ∈ xs, p x = false) ∨ ∃ k0 : Nat, k = k0 ∧ ∃ h : k0 < xs.length, p xs[k0] = true ∧ ∀ j (hj : j < xs.length), j < k0 → p xs[j] = false)
    (eg : ∀ args w, (callFunc g args).run Tryz.prog w = .ok (.enter g args) w)
    (hIF : Calls Tryz.prog 332 #[.slice (some ⟨b, 0, none⟩) xs.length cap, .func (.func g) #[] lb] w fun e w' => e = .returned (.int .i64 k) ∧ Below w.heap.size w w')
    (hp : ∀ W F x, x ∈ xs → RowAt w W b 3 cap F → Calls Tryz.prog g (#[.int .i64 x] ++ lb) W fun e w' => e = .returned (.bool (p x)) ∧ Below W.heap.size W w') :
    Calls Tryz.prog 315 #[.slice (some ⟨b, 0, none⟩) xs.length cap, .func (.func g) #[] lb] w fun e w' =>
     e = .returned (.slice (some ⟨b, 0, none⟩) (xs.filter fun x => !p x).length cap) ∧ ∃ G, RowAt w w' b 3 cap ((xs.filter fun x => !p x).map (Value.int .i64) ++ G) := by
 have e6 := Tryz.call332
 rcases hk with ⟨rfl, hall⟩ | ⟨k0, rfl, hk0, ht, hall⟩
 ·have hkeep : (xs.filter fun x => !p x) = xs := List.filter_eq_self.2 fun x hx => by rw [hall x hx]; rfl
  rw [hkeep]
  have HR : Aside (RowAt w w b 3 cap (xs.map (Value.int .i64))) := hR
  clear hR hp
  go_enter Tryz.func315, Tryz.ntmps315
  go_wp2_with fail
  refine hIF.mono ?_
  rintro e w' ⟨rfl, hb⟩
  go_wp2
  go_ret
  exact ⟨rfl, [], by simpa using HR.out.behind hb⟩
 ·have hne1 : ((k0 : Int) == -1) = false := beq_eq_false_iff_ne.2 (by omega)
  have HS : Aside (DelInv (Value.int .i64) p xs k0 (k0 + 1) (xs.map (Value.int .i64))) := DelInv.start hk0 hall ht
  have HR : Aside (RowAt w w b 3 cap (xs.map (Value.int .i64))) := hR
  have HC : Aside _ := hp
  clear hR hp ht hall
  go_enter Tryz.func315, Tryz.ntmps315
  go_wp2_with fail
  refine hIF.mono ?_
  rintro e w' ⟨rfl, hb⟩
  go_wp2
  go_loopg [5, 6, 7] xs.length (fun gg s5 s6 _ wr => ∃ (i j : Nat) (F : List Value), s5 = .int .i64 i ∧ s6 = .int .i64 j ∧ j ≤ xs.length ∧ xs.length - j ≤ gg ∧ Aside (RowAt w wr b 3 cap F) ∧ Aside (DelInv (Value.int .i64) p xs i j F))
  case atStart => exact ⟨k0, k0 + 1, _, rfl, by go_num, by omega, by omega, HR.out.behind hb, HS⟩
  case round =>
   obtain ⟨i, j, F, rfl, rfl, hjd, hgg, R2, I2⟩ := hrel
   have hI := I2.out
   have hlF := hI.len
   have hij := hI.ij
   by_cases hlt : j < xs.length
   ·have hltz : (j : Int) < (xs.length : Int) := by omega
    have cj : wr.cell? ⟨b, j, none⟩ = some (.int .i64 xs[j]) := R2.out.cell (hI.at hlt)
    have hcall := HC.out wr F xs[j] (List.getElem_mem hlt) R2.out
    generalize hu : xs[j] = u at cj hcall
    have C : Aside (xs[j] = u) := hu
    clear hu hI
    cases hq : p u with
    | false =>
     rw [hq] at hcall
     go_wp2_with fail
     refine hcall.mono ?_
     rintro e w'' ⟨rfl, hb'⟩
     have R3 := R2.out.behind hb'
     have ci := R3.cell (List.getElem?_eq_getElem (show i < F.length by omega))
     have fi := R3.frozen i
     have A3 : Aside (RowAt w w'' b 3 cap F) := R3
     clear R3
     generalize F[i] = old at ci
     go_wp2
     go_roundg (xs.length - (j + 1))
     case measure => omega
     case rel =>
      refine ⟨i + 1, j + 1, F.take i ++ [.int .i64 u] ++ F.drop (i + 1), by go_num, by go_num, by omega, Nat.le_refl _, (show Aside _ from ?_), (show Aside _ from ?_)⟩
      ·exact A3.out.set [.int .i64 u] (by omega) (by simp; omega)
      ·have := I2.out.keep hlt (by rw [C.out]; exact hq)
       rwa [C.out] at this
    | true =>
     rw [hq] at hcall
     go_wp2_with fail
     refine hcall.mono ?_
     rintro e w'' ⟨rfl, hb'⟩
     go_wp2
     go_roundg (xs.length - (j + 1))
     case measure => omega
     case rel => exact ⟨i, j + 1, F, rfl, by go_num, by omega, Nat.le_refl _, R2.out.behind hb', I2.out.skip hlt (by rw [C.out]; exact hq)⟩
   ·obtain rfl : j = xs.length := by omega
    have hltz : ¬ (xs.length : Int) < (xs.length : Int) := by omega
    have hRN := R2.out.le
    have hcl : ∀ ty, (Builtin.clear_ #[118] ty #[.slice (some ⟨b, i, none⟩) (xs.length - i) (cap - i)]).run Tryz.prog wr = .ok (.tuple #[]) (wr.setCells b i (List.replicate (xs.length - i) (.int .i64 0))) :=
     fun ty => Lib.run_clear_slice wr _ _ ty _ Tryz.underlying118 (fun w => Tryz.zeroValue3 w) rfl rfl b i _ _ (by omega) (fun t ht => R2.out.there (by omega)) (fun t ht => R2.out.frozen _)
    have hle : ((xs.take xs.length).filter fun x => !p x) = xs.filter fun x => !p x := by rw [List.take_length]
    have hil := hI.il
    have hlo := hI.lo
    rw [hle] at hil hlo
    have HE : Aside (∃ G, RowAt w (wr.setCells b i (List.replicate (xs.length - i) (.int .i64 0))) b 3 cap ((xs.filter fun x => !p x).map (Value.int .i64) ++ G)) := by
     have := R2.out.set (List.replicate (xs.length - i) (Value.int .i64 0)) (s := i) (by omega) (by simp; omega)
     rw [hlo, List.append_assoc] at this
     exact ⟨_, this⟩
    have HL : Aside (i = (xs.filter fun x => !p x).length) := hil
    clear hil hlo hle hI
    go_wp2
    go_ret
    exact ⟨by rw [← HL.out]; rfl, HE.out⟩
set_option maxHeartbeats 4000000 in
set_option maxRecDepth 1000000 in
theorem a2s (ao : Option Addr) (n cap : Nat) (w : World) (g : Nat) (lb : Array Value)
    (hIF : Calls Tryz.prog 332 #[.slice ao n cap, .func (.func g) #[] lb] w fun e w' => e = .returned (.int .i64 (-1)) ∧ Below w.heap.size w w') :
    Calls Tryz.prog 315 #[.slice ao n cap, .func (.func g) #[] lb] w fun e w' => e = .returned (.slice ao n cap) ∧ Below w.heap.size w w' := by
 have e6 := Tryz.call332
 go_enter Tryz.func315, Tryz.ntmps315
 go_wp2_with fail
 refine hIF.mono ?_
 rintro e w' ⟨rfl, hb⟩
 go_wp2
 go_ret
 exact ⟨rfl, hb⟩
theorem a5k (f : Nat) (c : List D) (p : Int → Bool) (l : List Int) (hf : ∀ s ∈ l, FnC Tryz.prog f [oi s, .o (.q c)] (ob (p s))) (hl : l.length ≤ 67108864) : FnC Tryz.prog 332 [.o (.d (.sl (l.map fA))), .o (.f f [c])] (oi (dV p l 0)) := by
 refine ent Tryz.func332 rfl Tryz.call332 rfl (fun C => ?_); simp only [go_sem, st0, Tryz.ntmps332]
 refine aD ?_
 refine aN (α := Nat) (fun k => [(8, oi k)]) (fun _ => []) (fun k => k ≤ l.length ∧ dV p l 0 = dV p (l.drop k) k) (fun k => l.length - k) 0 (fun _ => ?_) ?_ ?_ (fun k hk => ?_)
 ·simp only [go_sem]
 ·simp only [go_sem]; simp
 ·simp
 ·obtain ⟨hk, hq⟩ := hk
  simp only [go_sem]
  refine aD ?_
  refine cnd rfl (fun h => ?_) (fun h => ?_)
  ·simp only [decide_eq_true_eq, Int.ofNat_lt] at h
   have hd := List.drop_eq_getElem_cons h
   rw [hd, dV] at hq
   have q0 := @h; refine fE (hf l[k] (List.getElem_mem h)) ?_
   refine cnd rfl (fun h2 => ?_) (fun h2 => ?_)
   ·refine aD ?_
    exact aA ⟨⟨_, rfl, by simp only [go_sem, hq, h2]⟩, trivial⟩
   ·refine aD ?_
    refine aF (k + 1) ?_ ?_ ?_
    ·simp only [go_sem]; simp
    ·rw [hq, h2]; exact ⟨h, by simp⟩
    ·omega
  ·simp only [decide_eq_false_iff_not] at h
   have e : k = l.length := by omega
   subst e
   simp only [List.drop_length, dV] at hq
   refine aD ?_
   exact aA ⟨⟨_, rfl, by simp only [go_sem, hq]⟩, trivial⟩
theorem xJ (f : Nat) (c : List D) (p : Int → Bool) (l : List Int) (hf : ∀ s ∈ l, FnC Tryz.prog f [oi s, .o (.q c)] (ob (p s))) (hl : l.length ≤ 67108864) :
    FnI Tryz.prog 315 3 1 (l.map fA) [.o (.f f [c])] false ((l.filter fun x => !p x).map fA) := by
 refine ⟨Tryz.call315, fun V w y S vs hm hrow hnd hlt hargs => ?_⟩
 have hl1 : vs.length = 1 := by have := hargs.1; simpa using this
 match vs, hl1 with
 | [v], _ =>
  have hv := hargs.2 0 _ v rfl rfl
  obtain ⟨lb, rfl, hlb, hcaps⟩ := hv
  have hcl : cSV [] V (.o (.f f [c])) (.func (.func f) #[] lb.toArray) := ⟨lb, rfl, hlb, hcaps⟩
  have hone : ∃ pv, lb = [pv] := by
   match lb, hlb with
   | [pv], _ => exact ⟨pv, rfl⟩
  obtain ⟨pv, rfl⟩ := hone
  have hq : cSV [] V (.o (.q c)) pv := hcaps 0 c pv rfl rfl
  have hI := a5k f c p l hf hl
  rcases scal_down (e := (Value.int .i64)) hrow with ⟨⟨ao, rfl⟩, rfl, rfl⟩ | ⟨b, cap, cc, rfl, h1, h2, h3, h4, h5, h6, rfl⟩
  ·have hIF := hI.calls V w [.slice ao 0 0, .func (.func f) #[] #[pv]] hm ⟨rfl, fun i s y e1 e2 => by
    match i with
    | 0 => simp at e1 e2; subst e1; subst e2; exact b4A ao
    | 1 => simp at e1 e2; subst e1; subst e2; exact hcl
    | i + 2 => simp at e1⟩
   have hD := a2s ao 0 0 w f #[pv] (hIF.mono (by
    rintro e w' ⟨y, rfl, hd⟩
    obtain ⟨V', S', _, _, _, ⟨l', hsh, hr⟩, _, _⟩ := hd.out
    exact ⟨by simpa [dV] using a7a hd, hd.below⟩))
   refine hD.mono ?_
   rintro e w' ⟨rfl, hb⟩
   exact ⟨_, rfl, (fun h => (by cases h)), ⟨rV _ hb, [], ⟨by simp, [], [], LayL.nil V, .inl ⟨⟨ao, rfl⟩, rfl, rfl⟩⟩, hnd, (fun b hb => .inl hb), (fun _ => rfl)⟩⟩
  ·have hR := RowAt.of_row (e := (Value.int .i64)) h3 h4 h1 h5
   have hlt' : b < w.heap.size := (Array.getElem?_eq_some_iff.1 h3).1
   have hIF := hI.calls (a2t V b (l.map (Value.int .i64))) w [.slice (some ⟨b, 0, none⟩) l.length cap, .func (.func f) #[] #[pv]] (b2G hm hR) ⟨rfl, fun i s y e1 e2 => by
    match i with
    | 0 => simp at e1 e2; subst e1; subst e2; exact ⟨_, b2H (e := (Value.int .i64)) (fun _ => rfl) h1 h2⟩
    | 1 => simp at e1 e2; subst e1; subst e2; exact hcl.mono (GLe.refl _) (b4z h6 _)
    | i + 2 => simp at e1⟩
   rcases Nat.eq_zero_or_pos l.length with h0 | h0
   ·have hnil : l = [] := List.eq_nil_of_length_eq_zero h0
    subst hnil
    have hD := a2s (some ⟨b, 0, none⟩) 0 cap w f #[pv] (hIF.mono (by
     rintro e w' ⟨y, rfl, hd⟩
     exact ⟨by simpa [dV] using a7a hd, hd.below⟩))
    refine hD.mono ?_
    rintro e w' ⟨rfl, hb⟩
    have hG := (hR.behind hb).row (l := ([] : List Int)) (G := []) (V := V) (e := (Value.int .i64)) (fun _ => rfl) h2 h6
    exact ⟨_, rfl, (fun h => (by cases h)), ⟨rV _ hb, [b], hG, hnd, (fun b hb => .inl hb), (fun _ => rfl)⟩⟩
   ·have hg := hf l[0] (List.getElem_mem h0)
    have hW := a8C b cap l w p f #[pv] hR h1 (by simp only [maxLen] at h2; omega) (dV p l 0) (by
        rcases idxP_spec p l 0 with h | ⟨k0, e1, e2⟩
        ·exact .inl h
        ·exact .inr ⟨k0, by rw [e1]; simp, e2⟩) hg.enters (hIF.mono (by
        rintro e w' ⟨y, rfl, hd⟩
        exact ⟨a7a hd, hd.below⟩)) (fun W F x hx hRW => by
        refine ((hf x hx).calls V W [.int .i64 x, pv] (hRW.mod hm h6) ⟨rfl, fun i s y e1 e2 => ?_⟩).mono ?_
        ·match i with
         | 0 => simp at e1 e2; subst e1; subst e2; exact ⟨_, .v _ rfl⟩
         | 1 => simp at e1 e2; subst e1; subst e2; exact hq
         | i + 2 => simp at e1
        ·rintro e w' ⟨y, rfl, hd⟩
         exact ⟨b6k hd, hd.below⟩)
    refine hW.mono ?_
    rintro e w' ⟨rfl, G, hG⟩
    exact ⟨_, rfl, (fun h => (by cases h)), ⟨hG.grown, [b], hG.row (fun _ => rfl) h2 h6, hnd, (fun b hb => .inl hb), (fun _ => rfl)⟩⟩
end Go.Proofs.YtddimbdeggomaaaGreat
end
section
section
set_option linter.all false
set_option maxHeartbeats 1000000
namespace Go.Proofs.YtddimbdeggomaaaGreat
open Go Go.Sx Go.RowKit Go.Proofs
structure TResult where
 fName : ByteArray
 fIDs : List Int
@[go_sem] def aJ (x : TResult) : List D := [sv x.fName, .sl (x.fIDs.map fA)]
@[go_sem] def yR (x : TResult) : SV := .g [.d (sv x.fName), .d (.sl (x.fIDs.map fA))]
@[go_sem] def b6p (x : TResult) : SV := .g [.d (sv x.fName), .w 3 1 (x.fIDs.map fA)]
def wResult (x : TResult) : Nat := x.fName.size + x.fIDs.length
def xS (x : TResult) : Prop := x.fName.size ≤ 9223372036854775807 ∧ a1Q x.fIDs
def aH (l : List TResult) : Nat := l.length + wsum wResult l
def yS (l : List TResult) : Prop := l.length ≤ 9223372036854775807 ∧ ∀ x ∈ l, xS x
theorem b2W {n : Nat} {r : List D} (h : ShD tt n 120 r) : ∃ x : TResult, r = aJ x ∧ xS x := by
 match n, h with
 | n + 1, ⟨a0, b0, e0, h0, a1, b1, e1, h1, ee⟩ =>
  obtain ⟨x0, rfl, p0⟩ := b2I h0
  obtain ⟨x1, rfl, p1⟩ := b6l h1
  have ee' : b1 = [] := ee
  subst ee' e1 e0
  exact ⟨⟨x0, x1⟩, rfl, p0, p1⟩
theorem b0u {n : Nat} {r : List D} (h : ShD tt n 27 r) : ∃ l : List TResult, r = [.sl (l.map aJ)] ∧ yS l := by
 match n, h with
 | n + 1, ⟨rows, h, hm, hr⟩ =>
  obtain ⟨l, rfl, hl⟩ := nL aJ xS (fun r h => b2W (hr r h))
  exact ⟨l, h, by unfold maxLen at hm; simpa using hm, hl⟩
theorem a2w (x : TResult) (n : Int) (h0 : 0 ≤ n ∧ n ≤ 1048576) (hw : xS x) : FnC Tryz.prog 78 [yR x, oi n] (oi (bP n (wResult x))) := by
 refine ent Tryz.func78 rfl Tryz.call78 rfl (fun C => ?_); simp only [go_sem, st0, Tryz.ntmps78]
 unfold xS at hw
 by_cases hc0 : n - (x.fName.size : Nat) < 0
 ·have e : bP n (wResult x) = -1 := by rw [aU (by unfold wResult; omega)]
  have q0 := @hc0; refine gF ?_
  exact aA ⟨⟨_, rfl, by simp only [go_sem, e]⟩, trivial⟩
 by_cases hc1 : n - (x.fName.size : Nat) - (x.fIDs.length : Nat) < 0
 ·have e : bP n (wResult x) = -1 := by rw [aU (by unfold wResult; omega)]
  have q0 := @hc0; have q1 := aU hc1; have q2 := @hc1; refine nP (a5W x.fIDs (n - (x.fName.size : Nat)) (by omega) hw.2) ?_
  exact aA ⟨⟨_, rfl, by simp only [go_sem, e]⟩, trivial⟩
 have e : bP n (wResult x) = n - (x.fName.size : Nat) - (x.fIDs.length : Nat) := by rw [aY (by unfold wResult; omega)]; unfold wResult; omega
 have q0 := @hc0; have q1 := aY hc1; have q2 := @hc1; refine nP (a5W x.fIDs (n - (x.fName.size : Nat)) (by omega) hw.2) ?_
 exact aA ⟨⟨_, rfl, by simp only [go_sem, e]⟩, trivial⟩
theorem a8N (x : TResult) (hx : wResult x ≤ 1048576) : FnC Tryz.prog 88 [yR x] (b6p x) := by
 unfold wResult at hx
 refine ent Tryz.func88 rfl Tryz.call88 rfl (fun C => ?_); simp only [go_sem, st0, Tryz.ntmps88]
 refine gP (b2J x.fIDs (by omega)) ?_
 exact aA ⟨⟨_, rfl, by simp only [go_sem]⟩, trivial⟩
theorem a8O (x : TResult) (hx : wResult x ≤ 67108864) : FnC Tryz.prog 90 [yR x, yR x] (ob true) := by
 unfold wResult at hx
 refine ent Tryz.func90 rfl Tryz.call90 rfl (fun C => ?_); simp only [go_sem, st0, Tryz.ntmps90]
 refine gP (a1R x.fIDs (by omega)) ?_
 exact aA ⟨⟨_, rfl, by simp only [go_sem]⟩, trivial⟩
theorem a7i (l : List TResult) (hl : aH l ≤ 1048576) : FnC Tryz.prog 21 [.o (.d (.sl (l.map aJ)))] (.o (.w 125 2 (l.map aJ))) := by
 unfold aH at hl
 refine ent Tryz.func21 rfl Tryz.call21 rfl (fun C => ?_); simp only [go_sem, st0, Tryz.ntmps21]
 refine aD ?_
 refine aN (α := Nat) (fun k => [(4, oi k)]) (fun k => [(0, .row 125 2 (mI aJ [sv ⟨#[]⟩, .sl []] l k) true)]) (fun k => k ≤ l.length) (fun k => l.length - k) 0 (fun _ => ?_) ?_ ?_ (fun k hk => ?_)
 ·simp only [go_sem]
 ·simp only [go_sem]; simp [kV]
 ·simp
 ·simp only [go_sem]
  refine aD ?_
  refine cnd rfl (fun h => ?_) (fun h => ?_)
  ·simp only [decide_eq_true_eq, Int.ofNat_lt] at h
   have hw := bC wResult l h
   have q0 := @h; refine fE (a8N l[k] (by omega)) ?_
   refine aF (k + 1) ?_ ?_ ?_
   ·simp only [go_sem]; simp [← mM, h, aJ]
   ·omega
   ·omega
  ·simp only [decide_eq_false_iff_not] at h
   have e : k = l.length := by omega
   subst e
   refine aD ?_
   exact aA ⟨⟨_, rfl, by simp only [go_sem, mO]⟩, trivial⟩
theorem a7j (l : List TResult) (hl : aH l ≤ 67108864) : FnC Tryz.prog 24 [.o (.d (.sl (l.map aJ))), .o (.d (.sl (l.map aJ)))] (ob true) := by
 unfold aH at hl
 refine ent Tryz.func24 rfl Tryz.call24 rfl (fun C => ?_); simp only [go_sem, st0, Tryz.ntmps24]
 refine aD ?_
 refine aN (α := Nat) (fun k => [(5, oi k)]) (fun _ => []) (fun k => k ≤ l.length) (fun k => l.length - k) 0 (fun _ => ?_) ?_ ?_ (fun k hk => ?_)
 ·simp only [go_sem]
 ·simp only [go_sem]; simp
 ·simp
 ·simp only [go_sem]
  refine aD ?_
  refine cnd rfl (fun h => ?_) (fun h => ?_)
  ·simp only [decide_eq_true_eq, Int.ofNat_lt] at h
   have hw := bC wResult l h
   have q0 := @h; refine fE (a8O l[k] (by omega)) ?_
   refine aF (k + 1) ?_ ?_ ?_
   ·simp only [go_sem]; simp
   ·omega
   ·omega
  ·simp only [decide_eq_false_iff_not] at h
   refine aD ?_
   exact aA ⟨⟨_, rfl, by simp only [go_sem]⟩, trivial⟩
theorem a1h (l : List TResult) (n : Int) (h0 : 0 ≤ n ∧ n ≤ 1048576) (hw : yS l) : FnC Tryz.prog 16 [.o (.d (.sl (l.map aJ))), oi n] (oi (bP n (aH l))) := by
 unfold yS at hw
 refine ent Tryz.func16 rfl Tryz.call16 rfl (fun C => ?_); simp only [go_sem, st0, Tryz.ntmps16]
 by_cases hc : n - (l.length : Nat) < 0
 ·have e : bP n (aH l) = -1 := by rw [aU (by unfold aH; omega)]
  have q0 := @hc; refine gF ?_
  exact aA ⟨⟨_, rfl, by simp only [go_sem, e]⟩, trivial⟩
 have q0 := @hc; refine gF ?_
 refine aN (α := Nat) (fun k => [(5, oi k), (1, oi (n - (l.length : Nat) - (wsum wResult (l.take k) : Nat)))]) (fun _ => []) (fun k => k ≤ l.length ∧ 0 ≤ n - (l.length : Nat) - (wsum wResult (l.take k) : Nat)) (fun k => l.length - k) 0 (fun _ => ?_) ?_ ?_ (fun k hk => ?_)
 ·simp only [go_sem]
 ·simp only [go_sem]; simp [wsum]
 ·simp [wsum]; omega
 ·obtain ⟨hk, hn⟩ := hk
  simp only [go_sem]
  refine aD ?_
  refine cnd rfl (fun h => ?_) (fun h => ?_)
  ·simp only [decide_eq_true_eq, Int.ofNat_lt] at h
   have hs := mU wResult l h
   have ht := vE wResult l (k + 1)
   by_cases h2 : n - (l.length : Nat) - (wsum wResult (l.take k) : Nat) - (wResult l[k] : Nat) < 0
   ·have e : bP n (aH l) = -1 := by rw [aU (by unfold aH; omega)]
    have q0 := @h; have q1 := aU h2; refine nO (a2w l[k] _ ⟨hn, by omega⟩ (hw.2 _ (List.getElem_mem h))) ?_
    exact aA ⟨⟨_, rfl, by simp only [go_sem, e]⟩, trivial⟩
   ·have q0 := @h; have q1 := aY h2; have q2 := @h2; refine nP (a2w l[k] _ ⟨hn, by omega⟩ (hw.2 _ (List.getElem_mem h))) ?_
    refine aF (k + 1) ?_ ?_ ?_
    ·simp only [go_sem]; simp; omega
    ·omega
    ·omega
  ·simp only [decide_eq_false_iff_not] at h
   have e0 : k = l.length := by omega
   subst e0
   rw [List.take_length] at hn
   have e : bP n (aH l) = n - (l.length : Nat) - (wsum wResult l : Nat) := by rw [aY (by unfold aH; omega)]; unfold aH; omega
   refine aD ?_
   exact aA ⟨⟨_, rfl, by simp only [go_sem, e, List.take_length]⟩, trivial⟩
end Go.Proofs.YtddimbdeggomaaaGreat
end
section
set_option linter.all false
set_option maxHeartbeats 1000000
namespace Go.Proofs.YtddimbdeggomaaaGreat
open Go Go.Sx Go.RowKit Go.Proofs
structure TDiff where
 fName : ByteArray
 fAdded : List Int
 fRemoved : List Int
@[go_sem] def dG (x : TDiff) : List D := [sv x.fName, .sl (x.fAdded.map fA), .sl (x.fRemoved.map fA)]
@[go_sem] def b7b (x : TDiff) : SV := .g [.d (sv x.fName), .d (.sl (x.fAdded.map fA)), .d (.sl (x.fRemoved.map fA))]
@[go_sem] def c0c (x : TDiff) : SV := .g [.d (sv x.fName), .w 3 1 (x.fAdded.map fA), .w 3 1 (x.fRemoved.map fA)]
def tL (x : TDiff) : Nat := x.fName.size + x.fAdded.length + x.fRemoved.length
def b7M (x : TDiff) : Prop := x.fName.size ≤ 9223372036854775807 ∧ a1Q x.fAdded ∧ a1Q x.fRemoved
def fV (l : List TDiff) : Nat := l.length + wsum tL l
def b9q (l : List TDiff) : Prop := l.length ≤ 9223372036854775807 ∧ ∀ x ∈ l, b7M x
theorem b2Y (x : TDiff) (hx : tL x ≤ 67108864) : FnC Tryz.prog 119 [b7b x, b7b x] (ob true) := by
 unfold tL at hx
 refine ent Tryz.func119 rfl Tryz.call119 rfl (fun C => ?_); simp only [go_sem, st0, Tryz.ntmps119]
 refine a8x (a1R x.fAdded (by omega)) (a1R x.fRemoved (by omega)) ?_
 exact aA ⟨⟨_, rfl, by simp only [go_sem]⟩, trivial⟩
theorem vT (l : List TDiff) (hl : fV l ≤ 67108864) : FnC Tryz.prog 44 [.o (.d (.sl (l.map dG))), .o (.d (.sl (l.map dG)))] (ob true) := by
 unfold fV at hl
 refine ent Tryz.func44 rfl Tryz.call44 rfl (fun C => ?_); simp only [go_sem, st0, Tryz.ntmps44]
 refine aD ?_
 refine aN (α := Nat) (fun k => [(5, oi k)]) (fun _ => []) (fun k => k ≤ l.length) (fun k => l.length - k) 0 (fun _ => ?_) ?_ ?_ (fun k hk => ?_)
 ·simp only [go_sem]
 ·simp only [go_sem]; simp
 ·simp
 ·simp only [go_sem]
  refine aD ?_
  refine cnd rfl (fun h => ?_) (fun h => ?_)
  ·simp only [decide_eq_true_eq, Int.ofNat_lt] at h
   have hw := bC tL l h
   have q0 := @h; refine fE (b2Y l[k] (by omega)) ?_
   refine aF (k + 1) ?_ ?_ ?_
   ·simp only [go_sem]; simp
   ·omega
   ·omega
  ·simp only [decide_eq_false_iff_not] at h
   refine aD ?_
   exact aA ⟨⟨_, rfl, by simp only [go_sem]⟩, trivial⟩
end Go.Proofs.YtddimbdeggomaaaGreat
end
section
set_option linter.all false
set_option maxHeartbeats 1000000
namespace Go.Proofs.YtddimbdeggomaaaGreat
open Go Go.Sx Go.RowKit Go.Proofs
structure TCatalog where
 fStore : TStore
 fDirs : List TDir
 fResults : List TResult
@[go_sem] def b0v (x : TCatalog) : List D := [.sl (x.fStore.fSchema.map bG), .sl (x.fStore.fFiles.map bB), iv x.fStore.fNextID, .sl (x.fDirs.map aM), .sl (x.fResults.map aJ)]
@[go_sem] def bH (x : TCatalog) : SV := .g [.d (.sl (x.fStore.fSchema.map bG)), .d (.sl (x.fStore.fFiles.map bB)), .d (iv x.fStore.fNextID), .d (.sl (x.fDirs.map aM)), .d (.sl (x.fResults.map aJ))]
@[go_sem] def kQ (x : TCatalog) : SV := .g [.w 193 2 (x.fStore.fSchema.map bG), .w 73 5 (x.fStore.fFiles.map bB), .d (iv x.fStore.fNextID), .w 93 2 (x.fDirs.map aM), .w 125 2 (x.fResults.map aJ)]
def wCatalog (x : TCatalog) : Nat := aL x.fStore + aP x.fDirs + aH x.fResults
def oN (x : TCatalog) : Prop := yP x.fStore ∧ a4f x.fDirs ∧ yS x.fResults
def b8x (l : List TCatalog) : Nat := l.length + wsum wCatalog l
def b7N (l : List TCatalog) : Prop := l.length ≤ 9223372036854775807 ∧ ∀ x ∈ l, oN x
theorem a4q {n : Nat} {r : List D} (h : ShD tt n 61 r) : ∃ x : TCatalog, r = b0v x ∧ oN x := by
 match n, h with
 | n + 1, ⟨a0, b0, e0, h0, a1, b1, e1, h1, a2, b2, e2, h2, ee⟩ =>
  obtain ⟨x0, rfl, p0⟩ := b4G h0
  obtain ⟨x1, rfl, p1⟩ := b6o h1
  obtain ⟨x2, rfl, p2⟩ := b0u h2
  have ee' : b2 = [] := ee
  subst ee' e2 e1 e0
  exact ⟨⟨x0, x1, x2⟩, rfl, p0, p1, p2⟩
theorem a1i (x : TCatalog) (n : Int) (h0 : 0 ≤ n ∧ n ≤ 1048576) (hw : oN x) : FnC Tryz.prog 38 [bH x, oi n] (oi (bP n (wCatalog x))) := by
 refine ent Tryz.func38 rfl Tryz.call38 rfl (fun C => ?_); simp only [go_sem, st0, Tryz.ntmps38]
 unfold oN at hw
 by_cases hc0 : n - (aL x.fStore : Nat) < 0
 ·have e : bP n (wCatalog x) = -1 := by rw [aU (by unfold wCatalog; omega)]
  have q0 := aU hc0; have q1 := @hc0; refine nO (vP x.fStore (n) (by omega) hw.1) ?_
  exact aA ⟨⟨_, rfl, by simp only [go_sem, e]⟩, trivial⟩
 by_cases hc1 : n - (aL x.fStore : Nat) - (aP x.fDirs : Nat) < 0
 ·have e : bP n (wCatalog x) = -1 := by rw [aU (by unfold wCatalog; omega)]
  have q0 := aY hc0; have q1 := @hc0; have q2 := aU hc1; have q3 := @hc1; refine a0f (vP x.fStore (n) (by omega) hw.1) (a1T x.fDirs (n - (aL x.fStore : Nat)) (by omega) hw.2.1) ?_
  exact aA ⟨⟨_, rfl, by simp only [go_sem, e]⟩, trivial⟩
 by_cases hc2 : n - (aL x.fStore : Nat) - (aP x.fDirs : Nat) - (aH x.fResults : Nat) < 0
 ·have e : bP n (wCatalog x) = -1 := by rw [aU (by unfold wCatalog; omega)]
  have q0 := aY hc0; have q1 := @hc0; have q2 := aY hc1; have q3 := @hc1; have q4 := aU hc2; have q5 := @hc2; refine b8Q (vP x.fStore (n) (by omega) hw.1) (a1T x.fDirs (n - (aL x.fStore : Nat)) (by omega) hw.2.1) (a1h x.fResults (n - (aL x.fStore : Nat) - (aP x.fDirs : Nat)) (by omega) hw.2.2) ?_
  exact aA ⟨⟨_, rfl, by simp only [go_sem, e]⟩, trivial⟩
 have e : bP n (wCatalog x) = n - (aL x.fStore : Nat) - (aP x.fDirs : Nat) - (aH x.fResults : Nat) := by rw [aY (by unfold wCatalog; omega)]; unfold wCatalog; omega
 have q0 := aY hc0; have q1 := @hc0; have q2 := aY hc1; have q3 := @hc1; have q4 := aY hc2; have q5 := @hc2; refine b8Q (vP x.fStore (n) (by omega) hw.1) (a1T x.fDirs (n - (aL x.fStore : Nat)) (by omega) hw.2.1) (a1h x.fResults (n - (aL x.fStore : Nat) - (aP x.fDirs : Nat)) (by omega) hw.2.2) ?_
 exact aA ⟨⟨_, rfl, by simp only [go_sem, e]⟩, trivial⟩
theorem mE (x : TCatalog) (hx : wCatalog x ≤ 1048576) : FnC Tryz.prog 41 [bH x] (kQ x) := by
 unfold wCatalog at hx
 refine ent Tryz.func41 rfl Tryz.call41 rfl (fun C => ?_); simp only [go_sem, st0, Tryz.ntmps41]
 refine b8N (b0o x.fStore (by omega)) (b2P x.fDirs (by omega)) (a7i x.fResults (by omega)) ?_
 exact aA ⟨⟨_, rfl, by simp only [go_sem]⟩, trivial⟩
theorem nI (x : TCatalog) (hx : wCatalog x ≤ 1048576) : FnC Tryz.prog 41 [bH x] (bH x) := (mE x hx).pu (by simp only [go_sem, and_self])
theorem iG (x : TCatalog) (hx : wCatalog x ≤ 67108864) : FnC Tryz.prog 35 [bH x, bH x] (ob true) := by
 unfold wCatalog at hx
 refine ent Tryz.func35 rfl Tryz.call35 rfl (fun C => ?_); simp only [go_sem, st0, Tryz.ntmps35]
 refine b8N (b0p x.fStore (by omega)) (b2Q x.fDirs (by omega)) (a7j x.fResults (by omega)) ?_
 exact aA ⟨⟨_, rfl, by simp only [go_sem]⟩, trivial⟩
end Go.Proofs.YtddimbdeggomaaaGreat
end
section
set_option linter.all false
set_option maxHeartbeats 1000000
namespace Go.Proofs.YtddimbdeggomaaaGreat
open Go Go.Sx Go.RowKit Go.Proofs
structure TGroup where
 fValue : TValue
 fIDs : List Int
@[go_sem] def b8Z (x : TGroup) : List D := [iv x.fValue.fKind, iv x.fValue.fInt, sv x.fValue.fStr, .sl (x.fIDs.map fA)]
@[go_sem] def b9O (x : TGroup) : SV := .g [.d (iv x.fValue.fKind), .d (iv x.fValue.fInt), .d (sv x.fValue.fStr), .d (.sl (x.fIDs.map fA))]
@[go_sem] def b9P (x : TGroup) : SV := .g [.d (iv x.fValue.fKind), .d (iv x.fValue.fInt), .d (sv x.fValue.fStr), .w 3 1 (x.fIDs.map fA)]
def b7O (x : TGroup) : Nat := gX x.fValue + x.fIDs.length
def b6q (x : TGroup) : Prop := vF x.fValue ∧ a1Q x.fIDs
def b9r (l : List TGroup) : Nat := l.length + wsum b7O l
def b9a (l : List TGroup) : Prop := l.length ≤ 9223372036854775807 ∧ ∀ x ∈ l, b6q x
end Go.Proofs.YtddimbdeggomaaaGreat
end
section
set_option linter.all false
set_option maxHeartbeats 1000000
namespace Go.Proofs.YtddimbdeggomaaaGreat
open Go Go.Sx Go.RowKit Go.Proofs
structure TEdit where
 fOK : Bool
 fSet : List TAttr
@[go_sem] def b9s (x : TEdit) : List D := [bv x.fOK, .sl (x.fSet.map dM)]
@[go_sem] def c0d (x : TEdit) : SV := .g [.d (bv x.fOK), .d (.sl (x.fSet.map dM))]
@[go_sem] def c0e (x : TEdit) : SV := .g [.d (bv x.fOK), .w 181 4 (x.fSet.map dM)]
def b9b (x : TEdit) : Nat := eB x.fSet
def b7P (x : TEdit) : Prop := True ∧ a0Y x.fSet
def b9Q (l : List TEdit) : Nat := l.length + wsum b9b l
def b9t (l : List TEdit) : Prop := l.length ≤ 9223372036854775807 ∧ ∀ x ∈ l, b7P x
end Go.Proofs.YtddimbdeggomaaaGreat
end
section
set_option linter.all false
set_option maxHeartbeats 1000000
namespace Go.Proofs.YtddimbdeggomaaaGreat
open Go Go.Sx Go.RowKit Go.Proofs
structure TChange where
 fKind : Int
 fFile : TFile
 fID : Int
 fDir : TDir
@[go_sem] def b2Z (x : TChange) : List D := [iv x.fKind, iv x.fFile.fID, iv x.fFile.fOwner, bv x.fFile.fShared, iv x.fFile.fLink, .sl (x.fFile.fAttrs.map dM), iv x.fID, sv x.fDir.fName, .sl (x.fDir.fQuery.map aW)]
@[go_sem] def nJ (x : TChange) : SV := .g [.d (iv x.fKind), .d (iv x.fFile.fID), .d (iv x.fFile.fOwner), .d (bv x.fFile.fShared), .d (iv x.fFile.fLink), .d (.sl (x.fFile.fAttrs.map dM)), .d (iv x.fID), .d (sv x.fDir.fName), .d (.sl (x.fDir.fQuery.map aW))]
@[go_sem] def b6r (x : TChange) : SV := .g [.d (iv x.fKind), .d (iv x.fFile.fID), .d (iv x.fFile.fOwner), .d (bv x.fFile.fShared), .d (iv x.fFile.fLink), .w 181 4 (x.fFile.fAttrs.map dM), .d (iv x.fID), .d (sv x.fDir.fName), .w 199 7 (x.fDir.fQuery.map aW)]
def wChange (x : TChange) : Nat := wFile x.fFile + wDir x.fDir
def xU (x : TChange) : Prop := inR .i64 x.fKind ∧ a1S x.fFile ∧ inR .i64 x.fID ∧ a4e x.fDir
def b9d (l : List TChange) : Nat := l.length + wsum wChange l
def b8y (l : List TChange) : Prop := l.length ≤ 9223372036854775807 ∧ ∀ x ∈ l, xU x
theorem b3a {n : Nat} {r : List D} (h : ShD tt n 106 r) : ∃ x : TChange, r = b2Z x ∧ xU x := by
 match n, h with
 | n + 1, ⟨a0, b0, e0, h0, a1, b1, e1, h1, a2, b2, e2, h2, a3, b3, e3, h3, ee⟩ =>
  obtain ⟨x0, rfl, p0⟩ := a0V h0
  obtain ⟨x1, rfl, p1⟩ := b1C h1
  obtain ⟨x2, rfl, p2⟩ := a0V h2
  obtain ⟨x3, rfl, p3⟩ := b0s h3
  have ee' : b3 = [] := ee
  subst ee' e3 e2 e1 e0
  exact ⟨⟨x0, x1, x2, x3⟩, rfl, p0, p1, p2, p3⟩
theorem a8P (x : TChange) (n : Int) (h0 : 0 ≤ n ∧ n ≤ 1048576) (hw : xU x) : FnC Tryz.prog 70 [nJ x, oi n] (oi (bP n (wChange x))) := by
 refine ent Tryz.func70 rfl Tryz.call70 rfl (fun C => ?_); simp only [go_sem, st0, Tryz.ntmps70]
 unfold xU at hw
 by_cases hc0 : n - (wFile x.fFile : Nat) < 0
 ·have e : bP n (wChange x) = -1 := by rw [aU (by unfold wChange; omega)]
  have q0 := aU hc0; have q1 := @hc0; refine nO (tK x.fFile (n) (by omega) hw.2.1) ?_
  exact aA ⟨⟨_, rfl, by simp only [go_sem, e]⟩, trivial⟩
 by_cases hc1 : n - (wFile x.fFile : Nat) - (wDir x.fDir : Nat) < 0
 ·have e : bP n (wChange x) = -1 := by rw [aU (by unfold wChange; omega)]
  have q0 := aY hc0; have q1 := @hc0; have q2 := aU hc1; have q3 := @hc1; refine a0f (tK x.fFile (n) (by omega) hw.2.1) (xM x.fDir (n - (wFile x.fFile : Nat)) (by omega) hw.2.2.2) ?_
  exact aA ⟨⟨_, rfl, by simp only [go_sem, e]⟩, trivial⟩
 have e : bP n (wChange x) = n - (wFile x.fFile : Nat) - (wDir x.fDir : Nat) := by rw [aY (by unfold wChange; omega)]; unfold wChange; omega
 have q0 := aY hc0; have q1 := @hc0; have q2 := aY hc1; have q3 := @hc1; refine a0f (tK x.fFile (n) (by omega) hw.2.1) (xM x.fDir (n - (wFile x.fFile : Nat)) (by omega) hw.2.2.2) ?_
 exact aA ⟨⟨_, rfl, by simp only [go_sem, e]⟩, trivial⟩
theorem xV (x : TChange) (hx : wChange x ≤ 1048576) : FnC Tryz.prog 72 [nJ x] (b6r x) := by
 unfold wChange at hx
 refine ent Tryz.func72 rfl Tryz.call72 rfl (fun C => ?_); simp only [go_sem, st0, Tryz.ntmps72]
 refine a8x (a5Y x.fFile (by omega)) (xN x.fDir (by omega)) ?_
 exact aA ⟨⟨_, rfl, by simp only [go_sem]⟩, trivial⟩
theorem a1j (x : TChange) (hx : wChange x ≤ 1048576) : FnC Tryz.prog 72 [nJ x] (nJ x) := (xV x hx).pu (by simp only [go_sem, and_self])
theorem a2x (x : TChange) (hx : wChange x ≤ 67108864) : FnC Tryz.prog 74 [nJ x, nJ x] (ob true) := by
 unfold wChange at hx
 refine ent Tryz.func74 rfl Tryz.call74 rfl (fun C => ?_); simp only [go_sem, st0, Tryz.ntmps74]
 refine a8x (a5Z x.fFile (by omega)) (a0Z x.fDir (by omega)) ?_
 exact aA ⟨⟨_, rfl, by simp only [go_sem]⟩, trivial⟩
end Go.Proofs.YtddimbdeggomaaaGreat
end
section
set_option linter.all false
set_option maxHeartbeats 1000000
namespace Go.Proofs.YtddimbdeggomaaaGreat
open Go Go.Sx Go.RowKit Go.Proofs
structure TSnapshot where
 fStore : TStore
 fDirs : List TDir
@[go_sem] def b7d (x : TSnapshot) : List D := [.sl (x.fStore.fSchema.map bG), .sl (x.fStore.fFiles.map bB), iv x.fStore.fNextID, .sl (x.fDirs.map aM)]
@[go_sem] def b8z (x : TSnapshot) : SV := .g [.d (.sl (x.fStore.fSchema.map bG)), .d (.sl (x.fStore.fFiles.map bB)), .d (iv x.fStore.fNextID), .d (.sl (x.fDirs.map aM))]
@[go_sem] def b8A (x : TSnapshot) : SV := .g [.w 193 2 (x.fStore.fSchema.map bG), .w 73 5 (x.fStore.fFiles.map bB), .d (iv x.fStore.fNextID), .w 93 2 (x.fDirs.map aM)]
def b3b (x : TSnapshot) : Nat := aL x.fStore + aP x.fDirs
def b0w (x : TSnapshot) : Prop := yP x.fStore ∧ a4f x.fDirs
def b7Q (l : List TSnapshot) : Nat := l.length + wsum b3b l
def b7e (l : List TSnapshot) : Prop := l.length ≤ 9223372036854775807 ∧ ∀ x ∈ l, b0w x
end Go.Proofs.YtddimbdeggomaaaGreat
end
section
set_option linter.all false
set_option maxHeartbeats 1000000
namespace Go.Proofs.YtddimbdeggomaaaGreat
open Go Go.Sx Go.RowKit Go.Proofs
structure TDisk where
 fSlotA : ByteArray
 fSlotB : ByteArray
@[go_sem] def b9u (x : TDisk) : List D := [sv x.fSlotA, sv x.fSlotB]
@[go_sem] def c0f (x : TDisk) : SV := .g [.d (sv x.fSlotA), .d (sv x.fSlotB)]
def b9e (x : TDisk) : Nat := x.fSlotA.size + x.fSlotB.size
def b7R (x : TDisk) : Prop := x.fSlotA.size ≤ 9223372036854775807 ∧ x.fSlotB.size ≤ 9223372036854775807
def b9R (l : List TDisk) : Nat := l.length + wsum b9e l
def b9v (l : List TDisk) : Prop := l.length ≤ 9223372036854775807 ∧ ∀ x ∈ l, b7R x
end Go.Proofs.YtddimbdeggomaaaGreat
end
section
set_option linter.all false
namespace Go.Proofs.YtddimbdeggomaaaGreat
open Go Go.Sx Go.RowKit Go.Proofs
def inB (n a b : Int) : Bool := decide (a ≤ n) && decide (n ≤ b)
theorem aS (n a b : Int) : FnC Tryz.prog 230 [oi n, oi a, oi b] (ob (inB n a b)) := by
 refine ent Tryz.func230 rfl Tryz.call230 rfl (fun C => ?_); simp only [go_sem, st0, Tryz.ntmps230]
 by_cases h0 : a ≤ n <;> by_cases h1 : n ≤ b
 all_goals
  have q0 := @h0; have q1 := @h1; have q2 := @decide_false; refine mG ?_
  refine aA ⟨⟨_, rfl, ?_⟩, ?_⟩
  ·simp only [go_sem]; simp [inB, h0, h1]
  ·trivial
theorem bA (n a b : Int) : FnC Tryz.prog 148 [oi n, oi a, oi b] (ob (inB n a b)) := by
 refine ent Tryz.func148 rfl Tryz.call148 rfl (fun C => ?_); simp only [go_sem, st0, Tryz.ntmps148]
 by_cases h0 : a ≤ n <;> by_cases h1 : n ≤ b
 all_goals
  have q0 := @h0; have q1 := @h1; have q2 := @decide_false; refine mG ?_
  refine aA ⟨⟨_, rfl, ?_⟩, ?_⟩
  ·simp only [go_sem]; simp [inB, h0, h1]
  ·trivial
end Go.Proofs.YtddimbdeggomaaaGreat
end
section
set_option linter.all false
set_option maxHeartbeats 1000000
namespace Go.Proofs.YtddimbdeggomaaaGreat
open Go Go.Sx Go.RowKit Go.Proofs
end Go.Proofs.YtddimbdeggomaaaGreat
end
end
