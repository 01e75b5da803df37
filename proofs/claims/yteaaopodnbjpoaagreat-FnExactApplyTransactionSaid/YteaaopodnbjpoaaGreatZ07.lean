/- Joined texts. -/
import Derived.Test.YteaaopodnbjpoaaGreatZ06
set_option linter.all false
section
set_option maxRecDepth 100000
set_option maxHeartbeats 4000000
namespace Go.Proofs.YteaaopodnbjpoaaGreat
open Go Go.Sx Go.RowKit Go.Proofs Go.Lib
set_option maxHeartbeats 4000000 in
set_option maxRecDepth 1000000 in
theorem a8N (b cap : Nat) (xs : List Int) (w : World) (p : Int → Bool) (g : Nat) (lb : Array Value) (hR : RowAt w w b 3 cap (xs.map (Value.int .i64))) (hn : xs.length ≤ cap) (hbig : cap ≤ 9223372036854775807) (k : Int)
    (hk : (k = -1 ∧ ∀ x ∈ xs, p x = false) ∨ ∃ k0 : Nat, k = k0 ∧ ∃ h : k0 < xs.length, p xs[k0] = true ∧ ∀ j (hj : j < xs.length), j < k0 → p xs[j] = false)
    (eg : ∀ args w, (callFunc g args).run Tryz.prog w = .ok (.enter g args) w)
    (hIF : Calls Tryz.prog 287 #[.slice (some ⟨b, 0, none⟩) xs.length cap, .func (.func g) #[] lb] w fun e w' => e = .returned (.int .i64 k) ∧ Below w.heap.size w w')
    (hp : ∀ W F x, x ∈ xs → RowAt w W b 3 cap F → Calls Tryz.prog g (#[.int .i64 x] ++ lb) W fun e w' => e = .returned (.bool (p x)) ∧ Below W.heap.size W w') :
    Calls Tryz.prog 242 #[.slice (some ⟨b, 0, none⟩) xs.length cap, .func (.func g) #[] lb] w fun e w' =>
     e = .returned (.slice (some ⟨b, 0, none⟩) (xs.filter fun x => !p x).length cap) ∧ ∃ G, RowAt w w' b 3 cap ((xs.filter fun x => !p x).map (Value.int .i64) ++ G) := by
 have e6 := Tryz.call287
 rcases hk with ⟨rfl, hall⟩ | ⟨k0, rfl, hk0, ht, hall⟩
 ·have hkeep : (xs.filter fun x => !p x) = xs := List.filter_eq_self.2 fun x hx => by rw [hall x hx]; rfl
  rw [hkeep]
  have HR : Aside (RowAt w w b 3 cap (xs.map (Value.int .i64))) := hR
  clear hR hp
  go_enter Tryz.func242, Tryz.ntmps242
  go_wp2_with fail
  refine hIF.mono ?_
  rintro e w' ⟨rfl, hb⟩
  go_wp2
  go_ret
  exact ⟨rfl, [], by simpa using HR.out.behind hb⟩
 ·have hne1 : ((k0 : Int) == -1) = false := beq_eq_false_iff_ne.2 (by omega)
  have HS : Aside (DelInv (Value.int .i64) p xs k0 (k0 + 1) (xs.map (Value.int .i64))) := DelInv.start hk0 hall ht
  have HR : Aside (RowAt w w b 3 cap (xs.map (Value.int .i64))) := hR
  have HC : Aside _ := hp
  clear hR hp ht hall
  go_enter Tryz.func242, Tryz.ntmps242
  go_wp2_with fail
  refine hIF.mono ?_
  rintro e w' ⟨rfl, hb⟩
  go_wp2
  go_loopg [5, 6, 7] xs.length (fun gg s5 s6 _ wr => ∃ (i j : Nat) (F : List Value), s5 = .int .i64 i ∧ s6 = .int .i64 j ∧ j ≤ xs.length ∧ xs.length - j ≤ gg ∧ Aside (RowAt w wr b 3 cap F) ∧ Aside (DelInv (Value.int .i64) p xs i j F))
  case atStart => exact ⟨k0, k0 + 1, _, rfl, by go_num, by omega, by omega, HR.out.behind hb, HS⟩
  case round =>
   obtain ⟨i, j, F, rfl, rfl, hjd, hgg, R2, I2⟩ := hrel
   have hI := I2.out
   have hlF := hI.len
   have hij := hI.ij
   by_cases hlt : j < xs.length
   ·have hltz : (j : Int) < (xs.length : Int) := by omega
    have cj : wr.cell? ⟨b, j, none⟩ = some (.int .i64 xs[j]) := R2.out.cell (hI.at hlt)
    have hcall := HC.out wr F xs[j] (List.getElem_mem hlt) R2.out
    generalize hu : xs[j] = u at cj hcall
    have C : Aside (xs[j] = u) := hu
    clear hu hI
    cases hq : p u with
    | false =>
     rw [hq] at hcall
     go_wp2_with fail
     refine hcall.mono ?_
     rintro e w'' ⟨rfl, hb'⟩
     have R3 := R2.out.behind hb'
     have ci := R3.cell (List.getElem?_eq_getElem (show i < F.length by omega))
     have fi := R3.frozen i
     have A3 : Aside (RowAt w w'' b 3 cap F) := R3
     clear R3
     generalize F[i] = old at ci
     go_wp2
     go_roundg (xs.length - (j + 1))
     case measure => omega
     case rel =>
      refine ⟨i + 1, j + 1, F.take i ++ [.int .i64 u] ++ F.drop (i + 1), by go_num, by go_num, by omega, Nat.le_refl _, (show Aside _ from ?_), (show Aside _ from ?_)⟩
      ·exact A3.out.set [.int .i64 u] (by omega) (by simp; omega)
      ·have := I2.out.keep hlt (by rw [C.out]; exact hq)
       rwa [C.out] at this
    | true =>
     rw [hq] at hcall
     go_wp2_with fail
     refine hcall.mono ?_
     rintro e w'' ⟨rfl, hb'⟩
     go_wp2
     go_roundg (xs.length - (j + 1))
     case measure => omega
     case rel => exact ⟨i, j + 1, F, rfl, by go_num, by omega, Nat.le_refl _, R2.out.behind hb', I2.out.skip hlt (by rw [C.out]; exact hq)⟩
   ·obtain rfl : j = xs.length := by omega
    have hltz : ¬ (xs.length : Int) < (xs.length : Int) := by omega
    have hRN := R2.out.le
    have hcl : ∀ ty, (Builtin.clear_ #[31] ty #[.slice (some ⟨b, i, none⟩) (xs.length - i) (cap - i)]).run Tryz.prog wr = .ok (.tuple #[]) (wr.setCells b i (List.replicate (xs.length - i) (.int .i64 0))) :=
     fun ty => Lib.run_clear_slice wr _ _ ty _ Tryz.underlying31 (fun w => Tryz.zeroValue3 w) rfl rfl b i _ _ (by omega) (fun t ht => R2.out.there (by omega)) (fun t ht => R2.out.frozen _)
    have hle : ((xs.take xs.length).filter fun x => !p x) = xs.filter fun x => !p x := by rw [List.take_length]
    have hil := hI.il
    have hlo := hI.lo
    rw [hle] at hil hlo
    have HE : Aside (∃ G, RowAt w (wr.setCells b i (List.replicate (xs.length - i) (.int .i64 0))) b 3 cap ((xs.filter fun x => !p x).map (Value.int .i64) ++ G)) := by
     have := R2.out.set (List.replicate (xs.length - i) (Value.int .i64 0)) (s := i) (by omega) (by simp; omega)
     rw [hlo, List.append_assoc] at this
     exact ⟨_, this⟩
    have HL : Aside (i = (xs.filter fun x => !p x).length) := hil
    clear hil hlo hle hI
    go_wp2
    go_ret
    exact ⟨by rw [← HL.out]; rfl, HE.out⟩
set_option maxHeartbeats 4000000 in
set_option maxRecDepth 1000000 in
theorem a2r (ao : Option Addr) (n cap : Nat) (w : World) (g : Nat) (lb : Array Value)
    (hIF : Calls Tryz.prog 287 #[.slice ao n cap, .func (.func g) #[] lb] w fun e w' => e = .returned (.int .i64 (-1)) ∧ Below w.heap.size w w') :
    Calls Tryz.prog 242 #[.slice ao n cap, .func (.func g) #[] lb] w fun e w' => e = .returned (.slice ao n cap) ∧ Below w.heap.size w w' := by
 have e6 := Tryz.call287
 go_enter Tryz.func242, Tryz.ntmps242
 go_wp2_with fail
 refine hIF.mono ?_
 rintro e w' ⟨rfl, hb⟩
 go_wp2
 go_ret
 exact ⟨rfl, hb⟩
theorem a5t (f : Nat) (c : List D) (p : Int → Bool) (l : List Int) (hf : ∀ s ∈ l, FnC Tryz.prog f [oi s, .o (.q c)] (ob (p s))) (hl : l.length ≤ 67108864) : FnC Tryz.prog 287 [.o (.d (.sl (l.map fE))), .o (.f f [c])] (oi (dX p l 0)) := by
 refine ent Tryz.func287 rfl Tryz.call287 rfl (fun C => ?_); simp only [go_sem, st0, Tryz.ntmps287]
 refine aD ?_
 refine aN (α := Nat) (fun k => [(8, oi k)]) (fun _ => []) (fun k => k ≤ l.length ∧ dX p l 0 = dX p (l.drop k) k) (fun k => l.length - k) 0 (fun _ => ?_) ?_ ?_ (fun k hk => ?_)
 ·simp only [go_sem]
 ·simp only [go_sem]; simp
 ·simp
 ·obtain ⟨hk, hq⟩ := hk
  simp only [go_sem]
  refine aD ?_
  refine cnd rfl (fun h => ?_) (fun h => ?_)
  ·simp only [decide_eq_true_eq, Int.ofNat_lt] at h
   have hd := List.drop_eq_getElem_cons h
   rw [hd, dX] at hq
   have q0 := @h; refine fC (hf l[k] (List.getElem_mem h)) ?_
   refine cnd rfl (fun h2 => ?_) (fun h2 => ?_)
   ·refine aD ?_
    exact aA ⟨⟨_, rfl, by simp only [go_sem, hq, h2]⟩, trivial⟩
   ·refine aD ?_
    refine aF (k + 1) ?_ ?_ ?_
    ·simp only [go_sem]; simp
    ·rw [hq, h2]; exact ⟨h, by simp⟩
    ·omega
  ·simp only [decide_eq_false_iff_not] at h
   have e : k = l.length := by omega
   subst e
   simp only [List.drop_length, dX] at hq
   refine aD ?_
   exact aA ⟨⟨_, rfl, by simp only [go_sem, hq]⟩, trivial⟩
theorem xG (f : Nat) (c : List D) (p : Int → Bool) (l : List Int) (hf : ∀ s ∈ l, FnC Tryz.prog f [oi s, .o (.q c)] (ob (p s))) (hl : l.length ≤ 67108864) :
    FnI Tryz.prog 242 3 1 (l.map fE) [.o (.f f [c])] false ((l.filter fun x => !p x).map fE) := by
 refine ⟨Tryz.call242, fun V w y S vs hm hrow hnd hlt hargs => ?_⟩
 have hl1 : vs.length = 1 := by have := hargs.1; simpa using this
 match vs, hl1 with
 | [v], _ =>
  have hv := hargs.2 0 _ v rfl rfl
  obtain ⟨lb, rfl, hlb, hcaps⟩ := hv
  have hcl : cSV [] V (.o (.f f [c])) (.func (.func f) #[] lb.toArray) := ⟨lb, rfl, hlb, hcaps⟩
  have hone : ∃ pv, lb = [pv] := by
   match lb, hlb with
   | [pv], _ => exact ⟨pv, rfl⟩
  obtain ⟨pv, rfl⟩ := hone
  have hq : cSV [] V (.o (.q c)) pv := hcaps 0 c pv rfl rfl
  have hI := a5t f c p l hf hl
  rcases scal_down (e := (Value.int .i64)) hrow with ⟨⟨ao, rfl⟩, rfl, rfl⟩ | ⟨b, cap, cc, rfl, h1, h2, h3, h4, h5, h6, rfl⟩
  ·have hIF := hI.calls V w [.slice ao 0 0, .func (.func f) #[] #[pv]] hm ⟨rfl, fun i s y e1 e2 => by
    match i with
    | 0 => simp at e1 e2; subst e1; subst e2; exact b4Y ao
    | 1 => simp at e1 e2; subst e1; subst e2; exact hcl
    | i + 2 => simp at e1⟩
   have hD := a2r ao 0 0 w f #[pv] (hIF.mono (by
    rintro e w' ⟨y, rfl, hd⟩
    obtain ⟨V', S', _, _, _, ⟨l', hsh, hr⟩, _, _⟩ := hd.out
    exact ⟨by simpa [dX] using a7k hd, hd.below⟩))
   refine hD.mono ?_
   rintro e w' ⟨rfl, hb⟩
   exact ⟨_, rfl, (fun h => (by cases h)), ⟨rH _ hb, [], ⟨by simp, [], [], LayL.nil V, .inl ⟨⟨ao, rfl⟩, rfl, rfl⟩⟩, hnd, (fun b hb => .inl hb), (fun _ => rfl)⟩⟩
  ·have hR := RowAt.of_row (e := (Value.int .i64)) h3 h4 h1 h5
   have hlt' : b < w.heap.size := (Array.getElem?_eq_some_iff.1 h3).1
   have hIF := hI.calls (a2s V b (l.map (Value.int .i64))) w [.slice (some ⟨b, 0, none⟩) l.length cap, .func (.func f) #[] #[pv]] (b3f hm hR) ⟨rfl, fun i s y e1 e2 => by
    match i with
    | 0 => simp at e1 e2; subst e1; subst e2; exact ⟨_, b3g (e := (Value.int .i64)) (fun _ => rfl) h1 h2⟩
    | 1 => simp at e1 e2; subst e1; subst e2; exact hcl.mono (GLe.refl _) (b4W h6 _)
    | i + 2 => simp at e1⟩
   rcases Nat.eq_zero_or_pos l.length with h0 | h0
   ·have hnil : l = [] := List.eq_nil_of_length_eq_zero h0
    subst hnil
    have hD := a2r (some ⟨b, 0, none⟩) 0 cap w f #[pv] (hIF.mono (by
     rintro e w' ⟨y, rfl, hd⟩
     exact ⟨by simpa [dX] using a7k hd, hd.below⟩))
    refine hD.mono ?_
    rintro e w' ⟨rfl, hb⟩
    have hG := (hR.behind hb).row (l := ([] : List Int)) (G := []) (V := V) (e := (Value.int .i64)) (fun _ => rfl) h2 h6
    exact ⟨_, rfl, (fun h => (by cases h)), ⟨rH _ hb, [b], hG, hnd, (fun b hb => .inl hb), (fun _ => rfl)⟩⟩
   ·have hg := hf l[0] (List.getElem_mem h0)
    have hW := a8N b cap l w p f #[pv] hR h1 (by simp only [maxLen] at h2; omega) (dX p l 0) (by
        rcases idxP_spec p l 0 with h | ⟨k0, e1, e2⟩
        ·exact .inl h
        ·exact .inr ⟨k0, by rw [e1]; simp, e2⟩) hg.enters (hIF.mono (by
        rintro e w' ⟨y, rfl, hd⟩
        exact ⟨a7k hd, hd.below⟩)) (fun W F x hx hRW => by
        refine ((hf x hx).calls V W [.int .i64 x, pv] (hRW.mod hm h6) ⟨rfl, fun i s y e1 e2 => ?_⟩).mono ?_
        ·match i with
         | 0 => simp at e1 e2; subst e1; subst e2; exact ⟨_, .v _ rfl⟩
         | 1 => simp at e1 e2; subst e1; subst e2; exact hq
         | i + 2 => simp at e1
        ·rintro e w' ⟨y, rfl, hd⟩
         exact ⟨b6M hd, hd.below⟩)
    refine hW.mono ?_
    rintro e w' ⟨rfl, G, hG⟩
    exact ⟨_, rfl, (fun h => (by cases h)), ⟨hG.grown, [b], hG.row (fun _ => rfl) h2 h6, hnd, (fun b hb => .inl hb), (fun _ => rfl)⟩⟩
end Go.Proofs.YteaaopodnbjpoaaGreat
end
section
section
set_option linter.all false
set_option maxHeartbeats 1000000
namespace Go.Proofs.YteaaopodnbjpoaaGreat
open Go Go.Sx Go.RowKit Go.Proofs
structure TResult where
 fName : ByteArray
 fIDs : List Int
@[go_sem] def aJ (x : TResult) : List D := [sv x.fName, .sl (x.fIDs.map fE)]
@[go_sem] def yO (x : TResult) : SV := .g [.d (sv x.fName), .d (.sl (x.fIDs.map fE))]
@[go_sem] def b6Q (x : TResult) : SV := .g [.d (sv x.fName), .w 3 1 (x.fIDs.map fE)]
def wResult (x : TResult) : Nat := x.fName.size + x.fIDs.length
def xO (x : TResult) : Prop := x.fName.size ≤ 9223372036854775807 ∧ a0f x.fIDs
def aH (l : List TResult) : Nat := l.length + wsum wResult l
def yP (l : List TResult) : Prop := l.length ≤ 9223372036854775807 ∧ ∀ x ∈ l, xO x
theorem b3u {n : Nat} {r : List D} (h : ShD tt n 122 r) : ∃ x : TResult, r = aJ x ∧ xO x := by
 match n, h with
 | n + 1, ⟨a0, b0, e0, h0, a1, b1, e1, h1, ee⟩ =>
  obtain ⟨x0, rfl, p0⟩ := b3h h0
  obtain ⟨x1, rfl, p1⟩ := b1W h1
  have ee' : b1 = [] := ee
  subst ee' e1 e0
  exact ⟨⟨x0, x1⟩, rfl, p0, p1⟩
theorem b0M {n : Nat} {r : List D} (h : ShD tt n 27 r) : ∃ l : List TResult, r = [.sl (l.map aJ)] ∧ yP l := by
 match n, h with
 | n + 1, ⟨rows, h, hm, hr⟩ =>
  obtain ⟨l, rfl, hl⟩ := lU aJ xO (fun r h => b3u (hr r h))
  exact ⟨l, h, by unfold maxLen at hm; simpa using hm, hl⟩
theorem a2v (x : TResult) (n : Int) (h0 : 0 ≤ n ∧ n ≤ 1048576) (hw : xO x) : FnC Tryz.prog 76 [yO x, oi n] (oi (bP n (wResult x))) := by
 refine ent Tryz.func76 rfl Tryz.call76 rfl (fun C => ?_); simp only [go_sem, st0, Tryz.ntmps76]
 unfold xO at hw
 by_cases hc0 : n - (x.fName.size : Nat) < 0
 ·have e : bP n (wResult x) = -1 := by rw [aS (by unfold wResult; omega)]
  have q0 := @hc0; refine fU ?_
  exact aA ⟨⟨_, rfl, by simp only [go_sem, e]⟩, trivial⟩
 by_cases hc1 : n - (x.fName.size : Nat) - (x.fIDs.length : Nat) < 0
 ·have e : bP n (wResult x) = -1 := by rw [aS (by unfold wResult; omega)]
  have q0 := @hc0; have q1 := aS hc1; have q2 := @hc1; refine mF (a6d x.fIDs (n - (x.fName.size : Nat)) (by omega) hw.2) ?_
  exact aA ⟨⟨_, rfl, by simp only [go_sem, e]⟩, trivial⟩
 have e : bP n (wResult x) = n - (x.fName.size : Nat) - (x.fIDs.length : Nat) := by rw [aY (by unfold wResult; omega)]; unfold wResult; omega
 have q0 := @hc0; have q1 := aY hc1; have q2 := @hc1; refine mF (a6d x.fIDs (n - (x.fName.size : Nat)) (by omega) hw.2) ?_
 exact aA ⟨⟨_, rfl, by simp only [go_sem, e]⟩, trivial⟩
theorem a9b (x : TResult) (hx : wResult x ≤ 1048576) : FnC Tryz.prog 96 [yO x] (b6Q x) := by
 unfold wResult at hx
 refine ent Tryz.func96 rfl Tryz.call96 rfl (fun C => ?_); simp only [go_sem, st0, Tryz.ntmps96]
 refine gP (yM x.fIDs (by omega)) ?_
 exact aA ⟨⟨_, rfl, by simp only [go_sem]⟩, trivial⟩
theorem a9c (x : TResult) (hx : wResult x ≤ 67108864) : FnC Tryz.prog 118 [yO x, yO x] (ob true) := by
 unfold wResult at hx
 refine ent Tryz.func118 rfl Tryz.call118 rfl (fun C => ?_); simp only [go_sem, st0, Tryz.ntmps118]
 refine gP (sS x.fIDs (by omega)) ?_
 exact aA ⟨⟨_, rfl, by simp only [go_sem]⟩, trivial⟩
theorem a7t (l : List TResult) (hl : aH l ≤ 1048576) : FnC Tryz.prog 46 [.o (.d (.sl (l.map aJ)))] (.o (.w 141 2 (l.map aJ))) := by
 unfold aH at hl
 refine ent Tryz.func46 rfl Tryz.call46 rfl (fun C => ?_); simp only [go_sem, st0, Tryz.ntmps46]
 refine aD ?_
 refine aN (α := Nat) (fun k => [(4, oi k)]) (fun k => [(0, .row 141 2 (lW aJ [sv ⟨#[]⟩, .sl []] l k) true)]) (fun k => k ≤ l.length) (fun k => l.length - k) 0 (fun _ => ?_) ?_ ?_ (fun k hk => ?_)
 ·simp only [go_sem]
 ·simp only [go_sem]; simp [jS]
 ·simp
 ·simp only [go_sem]
  refine aD ?_
  refine cnd rfl (fun h => ?_) (fun h => ?_)
  ·simp only [decide_eq_true_eq, Int.ofNat_lt] at h
   have hw := bA wResult l h
   have q0 := @h; refine fC (a9b l[k] (by omega)) ?_
   refine aF (k + 1) ?_ ?_ ?_
   ·simp only [go_sem]; simp [← lJ, h, aJ]
   ·omega
   ·omega
  ·simp only [decide_eq_false_iff_not] at h
   have e : k = l.length := by omega
   subst e
   refine aD ?_
   exact aA ⟨⟨_, rfl, by simp only [go_sem, lK]⟩, trivial⟩
theorem a7u (l : List TResult) (hl : aH l ≤ 67108864) : FnC Tryz.prog 54 [.o (.d (.sl (l.map aJ))), .o (.d (.sl (l.map aJ)))] (ob true) := by
 unfold aH at hl
 refine ent Tryz.func54 rfl Tryz.call54 rfl (fun C => ?_); simp only [go_sem, st0, Tryz.ntmps54]
 refine aD ?_
 refine aN (α := Nat) (fun k => [(5, oi k)]) (fun _ => []) (fun k => k ≤ l.length) (fun k => l.length - k) 0 (fun _ => ?_) ?_ ?_ (fun k hk => ?_)
 ·simp only [go_sem]
 ·simp only [go_sem]; simp
 ·simp
 ·simp only [go_sem]
  refine aD ?_
  refine cnd rfl (fun h => ?_) (fun h => ?_)
  ·simp only [decide_eq_true_eq, Int.ofNat_lt] at h
   have hw := bA wResult l h
   have q0 := @h; refine fC (a9c l[k] (by omega)) ?_
   refine aF (k + 1) ?_ ?_ ?_
   ·simp only [go_sem]; simp
   ·omega
   ·omega
  ·simp only [decide_eq_false_iff_not] at h
   refine aD ?_
   exact aA ⟨⟨_, rfl, by simp only [go_sem]⟩, trivial⟩
theorem a1f (l : List TResult) (n : Int) (h0 : 0 ≤ n ∧ n ≤ 1048576) (hw : yP l) : FnC Tryz.prog 38 [.o (.d (.sl (l.map aJ))), oi n] (oi (bP n (aH l))) := by
 unfold yP at hw
 refine ent Tryz.func38 rfl Tryz.call38 rfl (fun C => ?_); simp only [go_sem, st0, Tryz.ntmps38]
 by_cases hc : n - (l.length : Nat) < 0
 ·have e : bP n (aH l) = -1 := by rw [aS (by unfold aH; omega)]
  have q0 := @hc; refine fU ?_
  exact aA ⟨⟨_, rfl, by simp only [go_sem, e]⟩, trivial⟩
 have q0 := @hc; refine fU ?_
 refine aN (α := Nat) (fun k => [(5, oi k), (1, oi (n - (l.length : Nat) - (wsum wResult (l.take k) : Nat)))]) (fun _ => []) (fun k => k ≤ l.length ∧ 0 ≤ n - (l.length : Nat) - (wsum wResult (l.take k) : Nat)) (fun k => l.length - k) 0 (fun _ => ?_) ?_ ?_ (fun k hk => ?_)
 ·simp only [go_sem]
 ·simp only [go_sem]; simp [wsum]
 ·simp [wsum]; omega
 ·obtain ⟨hk, hn⟩ := hk
  simp only [go_sem]
  refine aD ?_
  refine cnd rfl (fun h => ?_) (fun h => ?_)
  ·simp only [decide_eq_true_eq, Int.ofNat_lt] at h
   have hs := jL wResult l h
   have ht := kY wResult l (k + 1)
   by_cases h2 : n - (l.length : Nat) - (wsum wResult (l.take k) : Nat) - (wResult l[k] : Nat) < 0
   ·have e : bP n (aH l) = -1 := by rw [aS (by unfold aH; omega)]
    have q0 := @h; have q1 := aS h2; refine mM (a2v l[k] _ ⟨hn, by omega⟩ (hw.2 _ (List.getElem_mem h))) ?_
    exact aA ⟨⟨_, rfl, by simp only [go_sem, e]⟩, trivial⟩
   ·have q0 := @h; have q1 := aY h2; have q2 := @h2; refine mF (a2v l[k] _ ⟨hn, by omega⟩ (hw.2 _ (List.getElem_mem h))) ?_
    refine aF (k + 1) ?_ ?_ ?_
    ·simp only [go_sem]; simp; omega
    ·omega
    ·omega
  ·simp only [decide_eq_false_iff_not] at h
   have e0 : k = l.length := by omega
   subst e0
   rw [List.take_length] at hn
   have e : bP n (aH l) = n - (l.length : Nat) - (wsum wResult l : Nat) := by rw [aY (by unfold aH; omega)]; unfold aH; omega
   refine aD ?_
   exact aA ⟨⟨_, rfl, by simp only [go_sem, e, List.take_length]⟩, trivial⟩
end Go.Proofs.YteaaopodnbjpoaaGreat
end
section
set_option linter.all false
set_option maxHeartbeats 1000000
namespace Go.Proofs.YteaaopodnbjpoaaGreat
open Go Go.Sx Go.RowKit Go.Proofs
structure TDiff where
 fName : ByteArray
 fAdded : List Int
 fRemoved : List Int
@[go_sem] def dH (x : TDiff) : List D := [sv x.fName, .sl (x.fAdded.map fE), .sl (x.fRemoved.map fE)]
@[go_sem] def b7A (x : TDiff) : SV := .g [.d (sv x.fName), .d (.sl (x.fAdded.map fE)), .d (.sl (x.fRemoved.map fE))]
@[go_sem] def c0u (x : TDiff) : SV := .g [.d (sv x.fName), .w 3 1 (x.fAdded.map fE), .w 3 1 (x.fRemoved.map fE)]
def wL (x : TDiff) : Nat := x.fName.size + x.fAdded.length + x.fRemoved.length
def b8s (x : TDiff) : Prop := x.fName.size ≤ 9223372036854775807 ∧ a0f x.fAdded ∧ a0f x.fRemoved
def lG (l : List TDiff) : Nat := l.length + wsum wL l
def b9F (l : List TDiff) : Prop := l.length ≤ 9223372036854775807 ∧ ∀ x ∈ l, b8s x
theorem b3v (x : TDiff) (hx : wL x ≤ 67108864) : FnC Tryz.prog 55 [b7A x, b7A x] (ob true) := by
 unfold wL at hx
 refine ent Tryz.func55 rfl Tryz.call55 rfl (fun C => ?_); simp only [go_sem, st0, Tryz.ntmps55]
 refine a3S (sS x.fAdded (by omega)) (sS x.fRemoved (by omega)) ?_
 exact aA ⟨⟨_, rfl, by simp only [go_sem]⟩, trivial⟩
theorem a4u (l : List TDiff) (hl : lG l ≤ 67108864) : FnC Tryz.prog 15 [.o (.d (.sl (l.map dH))), .o (.d (.sl (l.map dH)))] (ob true) := by
 unfold lG at hl
 refine ent Tryz.func15 rfl Tryz.call15 rfl (fun C => ?_); simp only [go_sem, st0, Tryz.ntmps15]
 refine aD ?_
 refine aN (α := Nat) (fun k => [(5, oi k)]) (fun _ => []) (fun k => k ≤ l.length) (fun k => l.length - k) 0 (fun _ => ?_) ?_ ?_ (fun k hk => ?_)
 ·simp only [go_sem]
 ·simp only [go_sem]; simp
 ·simp
 ·simp only [go_sem]
  refine aD ?_
  refine cnd rfl (fun h => ?_) (fun h => ?_)
  ·simp only [decide_eq_true_eq, Int.ofNat_lt] at h
   have hw := bA wL l h
   have q0 := @h; refine fC (b3v l[k] (by omega)) ?_
   refine aF (k + 1) ?_ ?_ ?_
   ·simp only [go_sem]; simp
   ·omega
   ·omega
  ·simp only [decide_eq_false_iff_not] at h
   refine aD ?_
   exact aA ⟨⟨_, rfl, by simp only [go_sem]⟩, trivial⟩
end Go.Proofs.YteaaopodnbjpoaaGreat
end
section
set_option linter.all false
set_option maxHeartbeats 1000000
namespace Go.Proofs.YteaaopodnbjpoaaGreat
open Go Go.Sx Go.RowKit Go.Proofs
structure TCatalog where
 fStore : TStore
 fDirs : List TDir
 fResults : List TResult
@[go_sem] def b0N (x : TCatalog) : List D := [.sl (x.fStore.fSchema.map bH), .sl (x.fStore.fFiles.map bB), iv x.fStore.fNextID, .sl (x.fDirs.map aM), .sl (x.fResults.map aJ)]
@[go_sem] def bK (x : TCatalog) : SV := .g [.d (.sl (x.fStore.fSchema.map bH)), .d (.sl (x.fStore.fFiles.map bB)), .d (iv x.fStore.fNextID), .d (.sl (x.fDirs.map aM)), .d (.sl (x.fResults.map aJ))]
@[go_sem] def jV (x : TCatalog) : SV := .g [.w 196 2 (x.fStore.fSchema.map bH), .w 70 5 (x.fStore.fFiles.map bB), .d (iv x.fStore.fNextID), .w 73 2 (x.fDirs.map aM), .w 141 2 (x.fResults.map aJ)]
def wCatalog (x : TCatalog) : Nat := aL x.fStore + aP x.fDirs + aH x.fResults
def sV (x : TCatalog) : Prop := yN x.fStore ∧ a4j x.fDirs ∧ yP x.fResults
def b8W (l : List TCatalog) : Nat := l.length + wsum wCatalog l
def b8t (l : List TCatalog) : Prop := l.length ≤ 9223372036854775807 ∧ ∀ x ∈ l, sV x
theorem b0O {n : Nat} {r : List D} (h : ShD tt n 29 r) : ∃ x : TCatalog, r = b0N x ∧ sV x := by
 match n, h with
 | n + 1, ⟨a0, b0, e0, h0, a1, b1, e1, h1, a2, b2, e2, h2, ee⟩ =>
  obtain ⟨x0, rfl, p0⟩ := b5f h0
  obtain ⟨x1, rfl, p1⟩ := b6P h1
  obtain ⟨x2, rfl, p2⟩ := b0M h2
  have ee' : b2 = [] := ee
  subst ee' e2 e1 e0
  exact ⟨⟨x0, x1, x2⟩, rfl, p0, p1, p2⟩
theorem a7v (x : TCatalog) (n : Int) (h0 : 0 ≤ n ∧ n ≤ 1048576) (hw : sV x) : FnC Tryz.prog 7 [bK x, oi n] (oi (bP n (wCatalog x))) := by
 refine ent Tryz.func7 rfl Tryz.call7 rfl (fun C => ?_); simp only [go_sem, st0, Tryz.ntmps7]
 unfold sV at hw
 by_cases hc0 : n - (aL x.fStore : Nat) < 0
 ·have e : bP n (wCatalog x) = -1 := by rw [aS (by unfold wCatalog; omega)]
  have q0 := aS hc0; have q1 := @hc0; refine mM (vB x.fStore (n) (by omega) hw.1) ?_
  exact aA ⟨⟨_, rfl, by simp only [go_sem, e]⟩, trivial⟩
 by_cases hc1 : n - (aL x.fStore : Nat) - (aP x.fDirs : Nat) < 0
 ·have e : bP n (wCatalog x) = -1 := by rw [aS (by unfold wCatalog; omega)]
  have q0 := aY hc0; have q1 := @hc0; have q2 := aS hc1; have q3 := @hc1; refine a0c (vB x.fStore (n) (by omega) hw.1) (a1M x.fDirs (n - (aL x.fStore : Nat)) (by omega) hw.2.1) ?_
  exact aA ⟨⟨_, rfl, by simp only [go_sem, e]⟩, trivial⟩
 by_cases hc2 : n - (aL x.fStore : Nat) - (aP x.fDirs : Nat) - (aH x.fResults : Nat) < 0
 ·have e : bP n (wCatalog x) = -1 := by rw [aS (by unfold wCatalog; omega)]
  have q0 := aY hc0; have q1 := @hc0; have q2 := aY hc1; have q3 := @hc1; have q4 := aS hc2; have q5 := @hc2; refine b9p (vB x.fStore (n) (by omega) hw.1) (a1M x.fDirs (n - (aL x.fStore : Nat)) (by omega) hw.2.1) (a1f x.fResults (n - (aL x.fStore : Nat) - (aP x.fDirs : Nat)) (by omega) hw.2.2) ?_
  exact aA ⟨⟨_, rfl, by simp only [go_sem, e]⟩, trivial⟩
 have e : bP n (wCatalog x) = n - (aL x.fStore : Nat) - (aP x.fDirs : Nat) - (aH x.fResults : Nat) := by rw [aY (by unfold wCatalog; omega)]; unfold wCatalog; omega
 have q0 := aY hc0; have q1 := @hc0; have q2 := aY hc1; have q3 := @hc1; have q4 := aY hc2; have q5 := @hc2; refine b9p (vB x.fStore (n) (by omega) hw.1) (a1M x.fDirs (n - (aL x.fStore : Nat)) (by omega) hw.2.1) (a1f x.fResults (n - (aL x.fStore : Nat) - (aP x.fDirs : Nat)) (by omega) hw.2.2) ?_
 exact aA ⟨⟨_, rfl, by simp only [go_sem, e]⟩, trivial⟩
theorem vF (x : TCatalog) (hx : wCatalog x ≤ 1048576) : FnC Tryz.prog 10 [bK x] (jV x) := by
 unfold wCatalog at hx
 refine ent Tryz.func10 rfl Tryz.call10 rfl (fun C => ?_); simp only [go_sem, st0, Tryz.ntmps10]
 refine b9m (b0G x.fStore (by omega)) (b3n x.fDirs (by omega)) (a7t x.fResults (by omega)) ?_
 exact aA ⟨⟨_, rfl, by simp only [go_sem]⟩, trivial⟩
theorem zI (x : TCatalog) (hx : wCatalog x ≤ 1048576) : FnC Tryz.prog 10 [bK x] (bK x) := (vF x hx).pu (by simp only [go_sem, and_self])
theorem oG (x : TCatalog) (hx : wCatalog x ≤ 67108864) : FnC Tryz.prog 14 [bK x, bK x] (ob true) := by
 unfold wCatalog at hx
 refine ent Tryz.func14 rfl Tryz.call14 rfl (fun C => ?_); simp only [go_sem, st0, Tryz.ntmps14]
 refine b9m (b0H x.fStore (by omega)) (b3o x.fDirs (by omega)) (a7u x.fResults (by omega)) ?_
 exact aA ⟨⟨_, rfl, by simp only [go_sem]⟩, trivial⟩
end Go.Proofs.YteaaopodnbjpoaaGreat
end
section
set_option linter.all false
set_option maxHeartbeats 1000000
namespace Go.Proofs.YteaaopodnbjpoaaGreat
open Go Go.Sx Go.RowKit Go.Proofs
structure TGroup where
 fValue : TValue
 fIDs : List Int
@[go_sem] def b9v (x : TGroup) : List D := [iv x.fValue.fKind, iv x.fValue.fInt, sv x.fValue.fStr, .sl (x.fIDs.map fE)]
@[go_sem] def c0j (x : TGroup) : SV := .g [.d (iv x.fValue.fKind), .d (iv x.fValue.fInt), .d (sv x.fValue.fStr), .d (.sl (x.fIDs.map fE))]
@[go_sem] def c0k (x : TGroup) : SV := .g [.d (iv x.fValue.fKind), .d (iv x.fValue.fInt), .d (sv x.fValue.fStr), .w 3 1 (x.fIDs.map fE)]
def b8u (x : TGroup) : Nat := gY x.fValue + x.fIDs.length
def b6R (x : TGroup) : Prop := uY x.fValue ∧ a0f x.fIDs
def b9G (l : List TGroup) : Nat := l.length + wsum b8u l
def b9w (l : List TGroup) : Prop := l.length ≤ 9223372036854775807 ∧ ∀ x ∈ l, b6R x
end Go.Proofs.YteaaopodnbjpoaaGreat
end
section
set_option linter.all false
set_option maxHeartbeats 1000000
namespace Go.Proofs.YteaaopodnbjpoaaGreat
open Go Go.Sx Go.RowKit Go.Proofs
structure TEdit where
 fOK : Bool
 fSet : List TAttr
@[go_sem] def b9H (x : TEdit) : List D := [bv x.fOK, .sl (x.fSet.map eH)]
@[go_sem] def c0v (x : TEdit) : SV := .g [.d (bv x.fOK), .d (.sl (x.fSet.map eH))]
@[go_sem] def c0w (x : TEdit) : SV := .g [.d (bv x.fOK), .w 117 4 (x.fSet.map eH)]
def b9x (x : TEdit) : Nat := dN x.fSet
def b8v (x : TEdit) : Prop := True ∧ a0V x.fSet
def c0l (l : List TEdit) : Nat := l.length + wsum b9x l
def b9I (l : List TEdit) : Prop := l.length ≤ 9223372036854775807 ∧ ∀ x ∈ l, b8v x
end Go.Proofs.YteaaopodnbjpoaaGreat
end
section
set_option linter.all false
set_option maxHeartbeats 1000000
namespace Go.Proofs.YteaaopodnbjpoaaGreat
open Go Go.Sx Go.RowKit Go.Proofs
structure TChange where
 fKind : Int
 fFile : TFile
 fID : Int
 fDir : TDir
@[go_sem] def dV (x : TChange) : List D := [iv x.fKind, iv x.fFile.fID, iv x.fFile.fOwner, bv x.fFile.fShared, iv x.fFile.fLink, .sl (x.fFile.fAttrs.map eH), iv x.fID, sv x.fDir.fName, .sl (x.fDir.fQuery.map bC)]
@[go_sem] def yQ (x : TChange) : SV := .g [.d (iv x.fKind), .d (iv x.fFile.fID), .d (iv x.fFile.fOwner), .d (bv x.fFile.fShared), .d (iv x.fFile.fLink), .d (.sl (x.fFile.fAttrs.map eH)), .d (iv x.fID), .d (sv x.fDir.fName), .d (.sl (x.fDir.fQuery.map bC))]
@[go_sem] def b6S (x : TChange) : SV := .g [.d (iv x.fKind), .d (iv x.fFile.fID), .d (iv x.fFile.fOwner), .d (bv x.fFile.fShared), .d (iv x.fFile.fLink), .w 117 4 (x.fFile.fAttrs.map eH), .d (iv x.fID), .d (sv x.fDir.fName), .w 158 7 (x.fDir.fQuery.map bC)]
def wChange (x : TChange) : Nat := wFile x.fFile + wDir x.fDir
def xP (x : TChange) : Prop := inR .i64 x.fKind ∧ a1L x.fFile ∧ inR .i64 x.fID ∧ a6i x.fDir
def wChangeS (l : List TChange) : Nat := l.length + wsum wChange l
def yR (l : List TChange) : Prop := l.length ≤ 9223372036854775807 ∧ ∀ x ∈ l, xP x
theorem b3w {n : Nat} {r : List D} (h : ShD tt n 65 r) : ∃ x : TChange, r = dV x ∧ xP x := by
 match n, h with
 | n + 1, ⟨a0, b0, e0, h0, a1, b1, e1, h1, a2, b2, e2, h2, a3, b3, e3, h3, ee⟩ =>
  obtain ⟨x0, rfl, p0⟩ := a0S h0
  obtain ⟨x1, rfl, p1⟩ := b1Y h1
  obtain ⟨x2, rfl, p2⟩ := a0S h2
  obtain ⟨x3, rfl, p3⟩ := b5h h3
  have ee' : b3 = [] := ee
  subst ee' e3 e2 e1 e0
  exact ⟨⟨x0, x1, x2, x3⟩, rfl, p0, p1, p2, p3⟩
theorem b0P {n : Nat} {r : List D} (h : ShD tt n 30 r) : ∃ l : List TChange, r = [.sl (l.map dV)] ∧ yR l := by
 match n, h with
 | n + 1, ⟨rows, h, hm, hr⟩ =>
  obtain ⟨l, rfl, hl⟩ := lU dV xP (fun r h => b3w (hr r h))
  exact ⟨l, h, by unfold maxLen at hm; simpa using hm, hl⟩
theorem a2w (x : TChange) (n : Int) (h0 : 0 ≤ n ∧ n ≤ 1048576) (hw : xP x) : FnC Tryz.prog 24 [yQ x, oi n] (oi (bP n (wChange x))) := by
 refine ent Tryz.func24 rfl Tryz.call24 rfl (fun C => ?_); simp only [go_sem, st0, Tryz.ntmps24]
 unfold xP at hw
 by_cases hc0 : n - (wFile x.fFile : Nat) < 0
 ·have e : bP n (wChange x) = -1 := by rw [aS (by unfold wChange; omega)]
  have q0 := aS hc0; have q1 := @hc0; refine mM (sU x.fFile (n) (by omega) hw.2.1) ?_
  exact aA ⟨⟨_, rfl, by simp only [go_sem, e]⟩, trivial⟩
 by_cases hc1 : n - (wFile x.fFile : Nat) - (wDir x.fDir : Nat) < 0
 ·have e : bP n (wChange x) = -1 := by rw [aS (by unfold wChange; omega)]
  have q0 := aY hc0; have q1 := @hc0; have q2 := aS hc1; have q3 := @hc1; refine a0c (sU x.fFile (n) (by omega) hw.2.1) (a0X x.fDir (n - (wFile x.fFile : Nat)) (by omega) hw.2.2.2) ?_
  exact aA ⟨⟨_, rfl, by simp only [go_sem, e]⟩, trivial⟩
 have e : bP n (wChange x) = n - (wFile x.fFile : Nat) - (wDir x.fDir : Nat) := by rw [aY (by unfold wChange; omega)]; unfold wChange; omega
 have q0 := aY hc0; have q1 := @hc0; have q2 := aY hc1; have q3 := @hc1; refine a0c (sU x.fFile (n) (by omega) hw.2.1) (a0X x.fDir (n - (wFile x.fFile : Nat)) (by omega) hw.2.2.2) ?_
 exact aA ⟨⟨_, rfl, by simp only [go_sem, e]⟩, trivial⟩
theorem a9d (x : TChange) (hx : wChange x ≤ 1048576) : FnC Tryz.prog 26 [yQ x] (b6S x) := by
 unfold wChange at hx
 refine ent Tryz.func26 rfl Tryz.call26 rfl (fun C => ?_); simp only [go_sem, st0, Tryz.ntmps26]
 refine a3S (a6f x.fFile (by omega)) (a8U x.fDir (by omega)) ?_
 exact aA ⟨⟨_, rfl, by simp only [go_sem]⟩, trivial⟩
theorem a9e (x : TChange) (hx : wChange x ≤ 67108864) : FnC Tryz.prog 28 [yQ x, yQ x] (ob true) := by
 unfold wChange at hx
 refine ent Tryz.func28 rfl Tryz.call28 rfl (fun C => ?_); simp only [go_sem, st0, Tryz.ntmps28]
 refine a3S (a6g x.fFile (by omega)) (a8V x.fDir (by omega)) ?_
 exact aA ⟨⟨_, rfl, by simp only [go_sem]⟩, trivial⟩
theorem vH (l : List TChange) (hl : wChangeS l ≤ 1048576) : FnC Tryz.prog 11 [.o (.d (.sl (l.map dV)))] (.o (.w 75 9 (l.map dV))) := by
 unfold wChangeS at hl
 refine ent Tryz.func11 rfl Tryz.call11 rfl (fun C => ?_); simp only [go_sem, st0, Tryz.ntmps11]
 refine aD ?_
 refine aN (α := Nat) (fun k => [(4, oi k)]) (fun k => [(0, .row 75 9 (lW dV [iv 0, iv 0, iv 0, bv false, iv 0, .sl [], iv 0, sv ⟨#[]⟩, .sl []] l k) true)]) (fun k => k ≤ l.length) (fun k => l.length - k) 0 (fun _ => ?_) ?_ ?_ (fun k hk => ?_)
 ·simp only [go_sem]
 ·simp only [go_sem]; simp [jS]
 ·simp
 ·simp only [go_sem]
  refine aD ?_
  refine cnd rfl (fun h => ?_) (fun h => ?_)
  ·simp only [decide_eq_true_eq, Int.ofNat_lt] at h
   have hw := bA wChange l h
   have q0 := @h; refine fC (a9d l[k] (by omega)) ?_
   refine aF (k + 1) ?_ ?_ ?_
   ·simp only [go_sem]; simp [← lJ, h, dV]
   ·omega
   ·omega
  ·simp only [decide_eq_false_iff_not] at h
   have e : k = l.length := by omega
   subst e
   refine aD ?_
   exact aA ⟨⟨_, rfl, by simp only [go_sem, lK]⟩, trivial⟩
theorem zJ (l : List TChange) (hl : wChangeS l ≤ 1048576) : FnC Tryz.prog 11 [.o (.d (.sl (l.map dV)))] (.o (.d (.sl (l.map dV)))) := (vH l hl).pu (by simp only [go_sem, and_self])
theorem a1g (l : List TChange) (hl : wChangeS l ≤ 67108864) : FnC Tryz.prog 16 [.o (.d (.sl (l.map dV))), .o (.d (.sl (l.map dV)))] (ob true) := by
 unfold wChangeS at hl
 refine ent Tryz.func16 rfl Tryz.call16 rfl (fun C => ?_); simp only [go_sem, st0, Tryz.ntmps16]
 refine aD ?_
 refine aN (α := Nat) (fun k => [(5, oi k)]) (fun _ => []) (fun k => k ≤ l.length) (fun k => l.length - k) 0 (fun _ => ?_) ?_ ?_ (fun k hk => ?_)
 ·simp only [go_sem]
 ·simp only [go_sem]; simp
 ·simp
 ·simp only [go_sem]
  refine aD ?_
  refine cnd rfl (fun h => ?_) (fun h => ?_)
  ·simp only [decide_eq_true_eq, Int.ofNat_lt] at h
   have hw := bA wChange l h
   have q0 := @h; refine fC (a9e l[k] (by omega)) ?_
   refine aF (k + 1) ?_ ?_ ?_
   ·simp only [go_sem]; simp
   ·omega
   ·omega
  ·simp only [decide_eq_false_iff_not] at h
   refine aD ?_
   exact aA ⟨⟨_, rfl, by simp only [go_sem]⟩, trivial⟩
theorem a7w (l : List TChange) (n : Int) (h0 : 0 ≤ n ∧ n ≤ 1048576) (hw : yR l) : FnC Tryz.prog 8 [.o (.d (.sl (l.map dV))), oi n] (oi (bP n (wChangeS l))) := by
 unfold yR at hw
 refine ent Tryz.func8 rfl Tryz.call8 rfl (fun C => ?_); simp only [go_sem, st0, Tryz.ntmps8]
 by_cases hc : n - (l.length : Nat) < 0
 ·have e : bP n (wChangeS l) = -1 := by rw [aS (by unfold wChangeS; omega)]
  have q0 := @hc; refine fU ?_
  exact aA ⟨⟨_, rfl, by simp only [go_sem, e]⟩, trivial⟩
 have q0 := @hc; refine fU ?_
 refine aN (α := Nat) (fun k => [(5, oi k), (1, oi (n - (l.length : Nat) - (wsum wChange (l.take k) : Nat)))]) (fun _ => []) (fun k => k ≤ l.length ∧ 0 ≤ n - (l.length : Nat) - (wsum wChange (l.take k) : Nat)) (fun k => l.length - k) 0 (fun _ => ?_) ?_ ?_ (fun k hk => ?_)
 ·simp only [go_sem]
 ·simp only [go_sem]; simp [wsum]
 ·simp [wsum]; omega
 ·obtain ⟨hk, hn⟩ := hk
  simp only [go_sem]
  refine aD ?_
  refine cnd rfl (fun h => ?_) (fun h => ?_)
  ·simp only [decide_eq_true_eq, Int.ofNat_lt] at h
   have hs := jL wChange l h
   have ht := kY wChange l (k + 1)
   by_cases h2 : n - (l.length : Nat) - (wsum wChange (l.take k) : Nat) - (wChange l[k] : Nat) < 0
   ·have e : bP n (wChangeS l) = -1 := by rw [aS (by unfold wChangeS; omega)]
    have q0 := @h; have q1 := aS h2; refine mM (a2w l[k] _ ⟨hn, by omega⟩ (hw.2 _ (List.getElem_mem h))) ?_
    exact aA ⟨⟨_, rfl, by simp only [go_sem, e]⟩, trivial⟩
   ·have q0 := @h; have q1 := aY h2; have q2 := @h2; refine mF (a2w l[k] _ ⟨hn, by omega⟩ (hw.2 _ (List.getElem_mem h))) ?_
    refine aF (k + 1) ?_ ?_ ?_
    ·simp only [go_sem]; simp; omega
    ·omega
    ·omega
  ·simp only [decide_eq_false_iff_not] at h
   have e0 : k = l.length := by omega
   subst e0
   rw [List.take_length] at hn
   have e : bP n (wChangeS l) = n - (l.length : Nat) - (wsum wChange l : Nat) := by rw [aY (by unfold wChangeS; omega)]; unfold wChangeS; omega
   refine aD ?_
   exact aA ⟨⟨_, rfl, by simp only [go_sem, e, List.take_length]⟩, trivial⟩
end Go.Proofs.YteaaopodnbjpoaaGreat
end
section
set_option linter.all false
set_option maxHeartbeats 1000000
namespace Go.Proofs.YteaaopodnbjpoaaGreat
open Go Go.Sx Go.RowKit Go.Proofs
structure TSnapshot where
 fStore : TStore
 fDirs : List TDir
@[go_sem] def b7B (x : TSnapshot) : List D := [.sl (x.fStore.fSchema.map bH), .sl (x.fStore.fFiles.map bB), iv x.fStore.fNextID, .sl (x.fDirs.map aM)]
@[go_sem] def b8Y (x : TSnapshot) : SV := .g [.d (.sl (x.fStore.fSchema.map bH)), .d (.sl (x.fStore.fFiles.map bB)), .d (iv x.fStore.fNextID), .d (.sl (x.fDirs.map aM))]
@[go_sem] def b8Z (x : TSnapshot) : SV := .g [.w 196 2 (x.fStore.fSchema.map bH), .w 70 5 (x.fStore.fFiles.map bB), .d (iv x.fStore.fNextID), .w 73 2 (x.fDirs.map aM)]
def b3x (x : TSnapshot) : Nat := aL x.fStore + aP x.fDirs
def b0Q (x : TSnapshot) : Prop := yN x.fStore ∧ a4j x.fDirs
def b8w (l : List TSnapshot) : Nat := l.length + wsum b3x l
def b7C (l : List TSnapshot) : Prop := l.length ≤ 9223372036854775807 ∧ ∀ x ∈ l, b0Q x
end Go.Proofs.YteaaopodnbjpoaaGreat
end
section
set_option linter.all false
set_option maxHeartbeats 1000000
namespace Go.Proofs.YteaaopodnbjpoaaGreat
open Go Go.Sx Go.RowKit Go.Proofs
structure TDisk where
 fSlotA : ByteArray
 fSlotB : ByteArray
@[go_sem] def b9J (x : TDisk) : List D := [sv x.fSlotA, sv x.fSlotB]
@[go_sem] def c0x (x : TDisk) : SV := .g [.d (sv x.fSlotA), .d (sv x.fSlotB)]
def b9y (x : TDisk) : Nat := x.fSlotA.size + x.fSlotB.size
def b8x (x : TDisk) : Prop := x.fSlotA.size ≤ 9223372036854775807 ∧ x.fSlotB.size ≤ 9223372036854775807
def c0m (l : List TDisk) : Nat := l.length + wsum b9y l
def b9K (l : List TDisk) : Prop := l.length ≤ 9223372036854775807 ∧ ∀ x ∈ l, b8x x
end Go.Proofs.YteaaopodnbjpoaaGreat
end
section
set_option linter.all false
namespace Go.Proofs.YteaaopodnbjpoaaGreat
open Go Go.Sx Go.RowKit Go.Proofs
def inB (n a b : Int) : Bool := decide (a ≤ n) && decide (n ≤ b)
theorem aQ (n a b : Int) : FnC Tryz.prog 175 [oi n, oi a, oi b] (ob (inB n a b)) := by
 refine ent Tryz.func175 rfl Tryz.call175 rfl (fun C => ?_); simp only [go_sem, st0, Tryz.ntmps175]
 by_cases h0 : a ≤ n <;> by_cases h1 : n ≤ b
 all_goals
  have q0 := @h0; have q1 := @h1; have q2 := @decide_false; refine mO ?_
  refine aA ⟨⟨_, rfl, ?_⟩, ?_⟩
  ·simp only [go_sem]; simp [inB, h0, h1]
  ·trivial
theorem aW (n a b : Int) : FnC Tryz.prog 82 [oi n, oi a, oi b] (ob (inB n a b)) := by
 refine ent Tryz.func82 rfl Tryz.call82 rfl (fun C => ?_); simp only [go_sem, st0, Tryz.ntmps82]
 by_cases h0 : a ≤ n <;> by_cases h1 : n ≤ b
 all_goals
  have q0 := @h0; have q1 := @h1; have q2 := @decide_false; refine mO ?_
  refine aA ⟨⟨_, rfl, ?_⟩, ?_⟩
  ·simp only [go_sem]; simp [inB, h0, h1]
  ·trivial
end Go.Proofs.YteaaopodnbjpoaaGreat
end
section
set_option linter.all false
set_option maxHeartbeats 1000000
namespace Go.Proofs.YteaaopodnbjpoaaGreat
open Go Go.Sx Go.RowKit Go.Proofs
end Go.Proofs.YteaaopodnbjpoaaGreat
end
end
