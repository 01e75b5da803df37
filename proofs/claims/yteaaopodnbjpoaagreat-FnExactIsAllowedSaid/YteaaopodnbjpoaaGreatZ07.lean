/- Joined texts. -/
import Derived.Test.YteaaopodnbjpoaaGreatZ06
set_option linter.all false
section
set_option maxRecDepth 100000
set_option maxHeartbeats 4000000
namespace Go.Proofs.YteaaopodnbjpoaaGreat
open Go Go.Sx Go.RowKit Go.Proofs Go.Lib
set_option maxHeartbeats 4000000 in
set_option maxRecDepth 1000000 in
theorem a7m (b cap : Nat) (xs : List Int) (w : World) (p : Int → Bool) (g : Nat) (lb : Array Value) (hR : RowAt w w b 3 cap (xs.map (Value.int .i64))) (hn : xs.length ≤ cap) (hbig : cap ≤ 9223372036854775807) (k : Int)
    (hk : (k = -1 ∧ ∀ x ∈ xs, p x = false) ∨ ∃ k0 : Nat, k = k0 ∧ ∃ h : k0 < xs.length, p xs[k0] = true ∧ ∀ j (hj : j < xs.length), j < k0 → p xs[j] = false)
    (eg : ∀ args w, (callFunc g args).run Tryz.prog w = .ok (.enter g args) w)
    (hIF : Calls Tryz.prog 287 #[.slice (some ⟨b, 0, none⟩) xs.length cap, .func (.func g) #[] lb] w fun e w' => e = .returned (.int .i64 k) ∧ Below w.heap.size w w')
    (hp : ∀ W F x, x ∈ xs → RowAt w W b 3 cap F → Calls Tryz.prog g (#[.int .i64 x] ++ lb) W fun e w' => e = .returned (.bool (p x)) ∧ Below W.heap.size W w') :
    Calls Tryz.prog 242 #[.slice (some ⟨b, 0, none⟩) xs.length cap, .func (.func g) #[] lb] w fun e w' =>
     e = .returned (.slice (some ⟨b, 0, none⟩) (xs.filter fun x => !p x).length cap) ∧ ∃ G, RowAt w w' b 3 cap ((xs.filter fun x => !p x).map (Value.int .i64) ++ G) := by
 have e6 := Tryz.call287
 rcases hk with ⟨rfl, hall⟩ | ⟨k0, rfl, hk0, ht, hall⟩
 ·have hkeep : (xs.filter fun x => !p x) = xs := List.filter_eq_self.2 fun x hx => by rw [hall x hx]; rfl
  rw [hkeep]
  have HR : Aside (RowAt w w b 3 cap (xs.map (Value.int .i64))) := hR
  clear hR hp
  go_enter Tryz.func242, Tryz.ntmps242
  go_wp2_with fail
  refine hIF.mono ?_
  rintro e w' ⟨rfl, hb⟩
  go_wp2
  go_ret
  exact ⟨rfl, [], by simpa using HR.out.behind hb⟩
 ·have hne1 : ((k0 : Int) == -1) = false := beq_eq_false_iff_ne.2 (by omega)
  have HS : Aside (DelInv (Value.int .i64) p xs k0 (k0 + 1) (xs.map (Value.int .i64))) := DelInv.start hk0 hall ht
  have HR : Aside (RowAt w w b 3 cap (xs.map (Value.int .i64))) := hR
  have HC : Aside _ := hp
  clear hR hp ht hall
  go_enter Tryz.func242, Tryz.ntmps242
  go_wp2_with fail
  refine hIF.mono ?_
  rintro e w' ⟨rfl, hb⟩
  go_wp2
  go_loopg [5, 6, 7] xs.length (fun gg s5 s6 _ wr => ∃ (i j : Nat) (F : List Value), s5 = .int .i64 i ∧ s6 = .int .i64 j ∧ j ≤ xs.length ∧ xs.length - j ≤ gg ∧ Aside (RowAt w wr b 3 cap F) ∧ Aside (DelInv (Value.int .i64) p xs i j F))
  case atStart => exact ⟨k0, k0 + 1, _, rfl, by go_num, by omega, by omega, HR.out.behind hb, HS⟩
  case round =>
   obtain ⟨i, j, F, rfl, rfl, hjd, hgg, R2, I2⟩ := hrel
   have hI := I2.out
   have hlF := hI.len
   have hij := hI.ij
   by_cases hlt : j < xs.length
   ·have hltz : (j : Int) < (xs.length : Int) := by omega
    have cj : wr.cell? ⟨b, j, none⟩ = some (.int .i64 xs[j]) := R2.out.cell (hI.at hlt)
    have hcall := HC.out wr F xs[j] (List.getElem_mem hlt) R2.out
    generalize hu : xs[j] = u at cj hcall
    have C : Aside (xs[j] = u) := hu
    clear hu hI
    cases hq : p u with
    | false =>
     rw [hq] at hcall
     go_wp2_with fail
     refine hcall.mono ?_
     rintro e w'' ⟨rfl, hb'⟩
     have R3 := R2.out.behind hb'
     have ci := R3.cell (List.getElem?_eq_getElem (show i < F.length by omega))
     have fi := R3.frozen i
     have A3 : Aside (RowAt w w'' b 3 cap F) := R3
     clear R3
     generalize F[i] = old at ci
     go_wp2
     go_roundg (xs.length - (j + 1))
     case measure => omega
     case rel =>
      refine ⟨i + 1, j + 1, F.take i ++ [.int .i64 u] ++ F.drop (i + 1), by go_num, by go_num, by omega, Nat.le_refl _, (show Aside _ from ?_), (show Aside _ from ?_)⟩
      ·exact A3.out.set [.int .i64 u] (by omega) (by simp; omega)
      ·have := I2.out.keep hlt (by rw [C.out]; exact hq)
       rwa [C.out] at this
    | true =>
     rw [hq] at hcall
     go_wp2_with fail
     refine hcall.mono ?_
     rintro e w'' ⟨rfl, hb'⟩
     go_wp2
     go_roundg (xs.length - (j + 1))
     case measure => omega
     case rel => exact ⟨i, j + 1, F, rfl, by go_num, by omega, Nat.le_refl _, R2.out.behind hb', I2.out.skip hlt (by rw [C.out]; exact hq)⟩
   ·obtain rfl : j = xs.length := by omega
    have hltz : ¬ (xs.length : Int) < (xs.length : Int) := by omega
    have hRN := R2.out.le
    have hcl : ∀ ty, (Builtin.clear_ #[31] ty #[.slice (some ⟨b, i, none⟩) (xs.length - i) (cap - i)]).run Tryz.prog wr = .ok (.tuple #[]) (wr.setCells b i (List.replicate (xs.length - i) (.int .i64 0))) :=
     fun ty => Lib.run_clear_slice wr _ _ ty _ Tryz.underlying31 (fun w => Tryz.zeroValue3 w) rfl rfl b i _ _ (by omega) (fun t ht => R2.out.there (by omega)) (fun t ht => R2.out.frozen _)
    have hle : ((xs.take xs.length).filter fun x => !p x) = xs.filter fun x => !p x := by rw [List.take_length]
    have hil := hI.il
    have hlo := hI.lo
    rw [hle] at hil hlo
    have HE : Aside (∃ G, RowAt w (wr.setCells b i (List.replicate (xs.length - i) (.int .i64 0))) b 3 cap ((xs.filter fun x => !p x).map (Value.int .i64) ++ G)) := by
     have := R2.out.set (List.replicate (xs.length - i) (Value.int .i64 0)) (s := i) (by omega) (by simp; omega)
     rw [hlo, List.append_assoc] at this
     exact ⟨_, this⟩
    have HL : Aside (i = (xs.filter fun x => !p x).length) := hil
    clear hil hlo hle hI
    go_wp2
    go_ret
    exact ⟨by rw [← HL.out]; rfl, HE.out⟩
set_option maxHeartbeats 4000000 in
set_option maxRecDepth 1000000 in
theorem a1u (ao : Option Addr) (n cap : Nat) (w : World) (g : Nat) (lb : Array Value)
    (hIF : Calls Tryz.prog 287 #[.slice ao n cap, .func (.func g) #[] lb] w fun e w' => e = .returned (.int .i64 (-1)) ∧ Below w.heap.size w w') :
    Calls Tryz.prog 242 #[.slice ao n cap, .func (.func g) #[] lb] w fun e w' => e = .returned (.slice ao n cap) ∧ Below w.heap.size w w' := by
 have e6 := Tryz.call287
 go_enter Tryz.func242, Tryz.ntmps242
 go_wp2_with fail
 refine hIF.mono ?_
 rintro e w' ⟨rfl, hb⟩
 go_wp2
 go_ret
 exact ⟨rfl, hb⟩
theorem a4b (f : Nat) (c : List D) (p : Int → Bool) (l : List Int) (hf : ∀ s ∈ l, FnC Tryz.prog f [oi s, .o (.q c)] (ob (p s))) (hl : l.length ≤ 67108864) : FnC Tryz.prog 287 [.o (.d (.sl (l.map fD))), .o (.f f [c])] (oi (dQ p l 0)) := by
 refine ent Tryz.func287 rfl Tryz.call287 rfl (fun C => ?_); simp only [go_sem, st0, Tryz.ntmps287]
 refine aG ?_
 refine aQ (α := Nat) (fun k => [(8, oi k)]) (fun _ => []) (fun k => k ≤ l.length ∧ dQ p l 0 = dQ p (l.drop k) k) (fun k => l.length - k) 0 (fun _ => ?_) ?_ ?_ (fun k hk => ?_)
 ·simp only [go_sem]
 ·simp only [go_sem]; simp
 ·simp
 ·obtain ⟨hk, hq⟩ := hk
  simp only [go_sem]
  refine aG ?_
  refine cnd rfl (fun h => ?_) (fun h => ?_)
  ·simp only [decide_eq_true_eq, Int.ofNat_lt] at h
   have hd := List.drop_eq_getElem_cons h
   rw [hd, dQ] at hq
   have q0 := @h; refine fC (hf l[k] (List.getElem_mem h)) ?_
   refine cnd rfl (fun h2 => ?_) (fun h2 => ?_)
   ·refine aG ?_
    exact aA ⟨⟨_, rfl, by simp only [go_sem, hq, h2]⟩, trivial⟩
   ·refine aG ?_
    refine aF (k + 1) ?_ ?_ ?_
    ·simp only [go_sem]; simp
    ·rw [hq, h2]; exact ⟨h, by simp⟩
    ·omega
  ·simp only [decide_eq_false_iff_not] at h
   have e : k = l.length := by omega
   subst e
   simp only [List.drop_length, dQ] at hq
   refine aG ?_
   exact aA ⟨⟨_, rfl, by simp only [go_sem, hq]⟩, trivial⟩
theorem vX (f : Nat) (c : List D) (p : Int → Bool) (l : List Int) (hf : ∀ s ∈ l, FnC Tryz.prog f [oi s, .o (.q c)] (ob (p s))) (hl : l.length ≤ 67108864) :
    FnI Tryz.prog 242 3 1 (l.map fD) [.o (.f f [c])] false ((l.filter fun x => !p x).map fD) := by
 refine ⟨Tryz.call242, fun V w y S vs hm hrow hnd hlt hargs => ?_⟩
 have hl1 : vs.length = 1 := by have := hargs.1; simpa using this
 match vs, hl1 with
 | [v], _ =>
  have hv := hargs.2 0 _ v rfl rfl
  obtain ⟨lb, rfl, hlb, hcaps⟩ := hv
  have hcl : cSV [] V (.o (.f f [c])) (.func (.func f) #[] lb.toArray) := ⟨lb, rfl, hlb, hcaps⟩
  have hone : ∃ pv, lb = [pv] := by
   match lb, hlb with
   | [pv], _ => exact ⟨pv, rfl⟩
  obtain ⟨pv, rfl⟩ := hone
  have hq : cSV [] V (.o (.q c)) pv := hcaps 0 c pv rfl rfl
  have hI := a4b f c p l hf hl
  rcases scal_down (e := (Value.int .i64)) hrow with ⟨⟨ao, rfl⟩, rfl, rfl⟩ | ⟨b, cap, cc, rfl, h1, h2, h3, h4, h5, h6, rfl⟩
  ·have hIF := hI.calls V w [.slice ao 0 0, .func (.func f) #[] #[pv]] hm ⟨rfl, fun i s y e1 e2 => by
    match i with
    | 0 => simp at e1 e2; subst e1; subst e2; exact b2V ao
    | 1 => simp at e1 e2; subst e1; subst e2; exact hcl
    | i + 2 => simp at e1⟩
   have hD := a1u ao 0 0 w f #[pv] (hIF.mono (by
    rintro e w' ⟨y, rfl, hd⟩
    obtain ⟨V', S', _, _, _, ⟨l', hsh, hr⟩, _, _⟩ := hd.out
    exact ⟨by simpa [dQ] using a5S hd, hd.below⟩))
   refine hD.mono ?_
   rintro e w' ⟨rfl, hb⟩
   exact ⟨_, rfl, (fun h => (by cases h)), ⟨qG _ hb, [], ⟨by simp, [], [], LayL.nil V, .inl ⟨⟨ao, rfl⟩, rfl, rfl⟩⟩, hnd, (fun b hb => .inl hb), (fun _ => rfl)⟩⟩
  ·have hR := RowAt.of_row (e := (Value.int .i64)) h3 h4 h1 h5
   have hlt' : b < w.heap.size := (Array.getElem?_eq_some_iff.1 h3).1
   have hIF := hI.calls (a1v V b (l.map (Value.int .i64))) w [.slice (some ⟨b, 0, none⟩) l.length cap, .func (.func f) #[] #[pv]] (b1f hm hR) ⟨rfl, fun i s y e1 e2 => by
    match i with
    | 0 => simp at e1 e2; subst e1; subst e2; exact ⟨_, b1g (e := (Value.int .i64)) (fun _ => rfl) h1 h2⟩
    | 1 => simp at e1 e2; subst e1; subst e2; exact hcl.mono (GLe.refl _) (b2U h6 _)
    | i + 2 => simp at e1⟩
   rcases Nat.eq_zero_or_pos l.length with h0 | h0
   ·have hnil : l = [] := List.eq_nil_of_length_eq_zero h0
    subst hnil
    have hD := a1u (some ⟨b, 0, none⟩) 0 cap w f #[pv] (hIF.mono (by
     rintro e w' ⟨y, rfl, hd⟩
     exact ⟨by simpa [dQ] using a5S hd, hd.below⟩))
    refine hD.mono ?_
    rintro e w' ⟨rfl, hb⟩
    have hG := (hR.behind hb).row (l := ([] : List Int)) (G := []) (V := V) (e := (Value.int .i64)) (fun _ => rfl) h2 h6
    exact ⟨_, rfl, (fun h => (by cases h)), ⟨qG _ hb, [b], hG, hnd, (fun b hb => .inl hb), (fun _ => rfl)⟩⟩
   ·have hg := hf l[0] (List.getElem_mem h0)
    have hW := a7m b cap l w p f #[pv] hR h1 (by simp only [maxLen] at h2; omega) (dQ p l 0) (by
        rcases idxP_spec p l 0 with h | ⟨k0, e1, e2⟩
        ·exact .inl h
        ·exact .inr ⟨k0, by rw [e1]; simp, e2⟩) hg.enters (hIF.mono (by
        rintro e w' ⟨y, rfl, hd⟩
        exact ⟨a5S hd, hd.below⟩)) (fun W F x hx hRW => by
        refine ((hf x hx).calls V W [.int .i64 x, pv] (hRW.mod hm h6) ⟨rfl, fun i s y e1 e2 => ?_⟩).mono ?_
        ·match i with
         | 0 => simp at e1 e2; subst e1; subst e2; exact ⟨_, .v _ rfl⟩
         | 1 => simp at e1 e2; subst e1; subst e2; exact hq
         | i + 2 => simp at e1
        ·rintro e w' ⟨y, rfl, hd⟩
         exact ⟨b4K hd, hd.below⟩)
    refine hW.mono ?_
    rintro e w' ⟨rfl, G, hG⟩
    exact ⟨_, rfl, (fun h => (by cases h)), ⟨hG.grown, [b], hG.row (fun _ => rfl) h2 h6, hnd, (fun b hb => .inl hb), (fun _ => rfl)⟩⟩
end Go.Proofs.YteaaopodnbjpoaaGreat
end
section
section
set_option linter.all false
set_option maxHeartbeats 1000000
namespace Go.Proofs.YteaaopodnbjpoaaGreat
open Go Go.Sx Go.RowKit Go.Proofs
structure TResult where
 fName : ByteArray
 fIDs : List Int
@[go_sem] def aK (x : TResult) : List D := [sv x.fName, .sl (x.fIDs.map fD)]
@[go_sem] def wZ (x : TResult) : SV := .g [.d (sv x.fName), .d (.sl (x.fIDs.map fD))]
@[go_sem] def b4P (x : TResult) : SV := .g [.d (sv x.fName), .w 3 1 (x.fIDs.map fD)]
def wResult (x : TResult) : Nat := x.fName.size + x.fIDs.length
def wD (x : TResult) : Prop := x.fName.size ≤ 9223372036854775807 ∧ a0Q x.fIDs
def aJ (l : List TResult) : Nat := l.length + wsum wResult l
def xA (l : List TResult) : Prop := l.length ≤ 9223372036854775807 ∧ ∀ x ∈ l, wD x
theorem b1w {n : Nat} {r : List D} (h : ShD tt n 122 r) : ∃ x : TResult, r = aK x ∧ wD x := by
 match n, h with
 | n + 1, ⟨a0, b0, e0, h0, a1, b1, e1, h1, ee⟩ =>
  obtain ⟨x0, rfl, p0⟩ := b1h h0
  obtain ⟨x1, rfl, p1⟩ := b4L h1
  have ee' : b1 = [] := ee
  subst ee' e1 e0
  exact ⟨⟨x0, x1⟩, rfl, p0, p1⟩
theorem a9d {n : Nat} {r : List D} (h : ShD tt n 27 r) : ∃ l : List TResult, r = [.sl (l.map aK)] ∧ xA l := by
 match n, h with
 | n + 1, ⟨rows, h, hm, hr⟩ =>
  obtain ⟨l, rfl, hl⟩ := mP aK wD (fun r h => b1w (hr r h))
  exact ⟨l, h, by unfold maxLen at hm; simpa using hm, hl⟩
theorem a1x (x : TResult) (n : Int) (h0 : 0 ≤ n ∧ n ≤ 1048576) (hw : wD x) : FnC Tryz.prog 76 [wZ x, oi n] (oi (bR n (wResult x))) := by
 refine ent Tryz.func76 rfl Tryz.call76 rfl (fun C => ?_); simp only [go_sem, st0, Tryz.ntmps76]
 unfold wD at hw
 by_cases hc0 : n - (x.fName.size : Nat) < 0
 ·have e : bR n (wResult x) = -1 := by rw [aR (by unfold wResult; omega)]
  have q0 := @hc0; refine gH ?_
  exact aA ⟨⟨_, rfl, by simp only [go_sem, e]⟩, trivial⟩
 by_cases hc1 : n - (x.fName.size : Nat) - (x.fIDs.length : Nat) < 0
 ·have e : bR n (wResult x) = -1 := by rw [aR (by unfold wResult; omega)]
  have q0 := @hc0; have q1 := aR hc1; have q2 := @hc1; refine mU (a4K x.fIDs (n - (x.fName.size : Nat)) (by omega) hw.2) ?_
  exact aA ⟨⟨_, rfl, by simp only [go_sem, e]⟩, trivial⟩
 have e : bR n (wResult x) = n - (x.fName.size : Nat) - (x.fIDs.length : Nat) := by rw [aZ (by unfold wResult; omega)]; unfold wResult; omega
 have q0 := @hc0; have q1 := aZ hc1; have q2 := @hc1; refine mU (a4K x.fIDs (n - (x.fName.size : Nat)) (by omega) hw.2) ?_
 exact aA ⟨⟨_, rfl, by simp only [go_sem, e]⟩, trivial⟩
theorem a7w (x : TResult) (hx : wResult x ≤ 1048576) : FnC Tryz.prog 96 [wZ x] (b4P x) := by
 unfold wResult at hx
 refine ent Tryz.func96 rfl Tryz.call96 rfl (fun C => ?_); simp only [go_sem, st0, Tryz.ntmps96]
 refine fQ (b1i x.fIDs (by omega)) ?_
 exact aA ⟨⟨_, rfl, by simp only [go_sem]⟩, trivial⟩
theorem a7x (x : TResult) (hx : wResult x ≤ 67108864) : FnC Tryz.prog 118 [wZ x, wZ x] (ob true) := by
 unfold wResult at hx
 refine ent Tryz.func118 rfl Tryz.call118 rfl (fun C => ?_); simp only [go_sem, st0, Tryz.ntmps118]
 refine fQ (b1j x.fIDs (by omega)) ?_
 exact aA ⟨⟨_, rfl, by simp only [go_sem]⟩, trivial⟩
theorem a5U (l : List TResult) (hl : aJ l ≤ 1048576) : FnC Tryz.prog 46 [.o (.d (.sl (l.map aK)))] (.o (.w 141 2 (l.map aK))) := by
 unfold aJ at hl
 refine ent Tryz.func46 rfl Tryz.call46 rfl (fun C => ?_); simp only [go_sem, st0, Tryz.ntmps46]
 refine aG ?_
 refine aQ (α := Nat) (fun k => [(4, oi k)]) (fun k => [(0, .row 141 2 (lN aK [sv ⟨#[]⟩, .sl []] l k) true)]) (fun k => k ≤ l.length) (fun k => l.length - k) 0 (fun _ => ?_) ?_ ?_ (fun k hk => ?_)
 ·simp only [go_sem]
 ·simp only [go_sem]; simp [kM]
 ·simp
 ·simp only [go_sem]
  refine aG ?_
  refine cnd rfl (fun h => ?_) (fun h => ?_)
  ·simp only [decide_eq_true_eq, Int.ofNat_lt] at h
   have hw := bB wResult l h
   have q0 := @h; refine fC (a7w l[k] (by omega)) ?_
   refine aF (k + 1) ?_ ?_ ?_
   ·simp only [go_sem]; simp [← lT, h, aK]
   ·omega
   ·omega
  ·simp only [decide_eq_false_iff_not] at h
   have e : k = l.length := by omega
   subst e
   refine aG ?_
   exact aA ⟨⟨_, rfl, by simp only [go_sem, lU]⟩, trivial⟩
theorem a5V (l : List TResult) (hl : aJ l ≤ 67108864) : FnC Tryz.prog 54 [.o (.d (.sl (l.map aK))), .o (.d (.sl (l.map aK)))] (ob true) := by
 unfold aJ at hl
 refine ent Tryz.func54 rfl Tryz.call54 rfl (fun C => ?_); simp only [go_sem, st0, Tryz.ntmps54]
 refine aG ?_
 refine aQ (α := Nat) (fun k => [(5, oi k)]) (fun _ => []) (fun k => k ≤ l.length) (fun k => l.length - k) 0 (fun _ => ?_) ?_ ?_ (fun k hk => ?_)
 ·simp only [go_sem]
 ·simp only [go_sem]; simp
 ·simp
 ·simp only [go_sem]
  refine aG ?_
  refine cnd rfl (fun h => ?_) (fun h => ?_)
  ·simp only [decide_eq_true_eq, Int.ofNat_lt] at h
   have hw := bB wResult l h
   have q0 := @h; refine fC (a7x l[k] (by omega)) ?_
   refine aF (k + 1) ?_ ?_ ?_
   ·simp only [go_sem]; simp
   ·omega
   ·omega
  ·simp only [decide_eq_false_iff_not] at h
   refine aG ?_
   exact aA ⟨⟨_, rfl, by simp only [go_sem]⟩, trivial⟩
theorem a0l (l : List TResult) (n : Int) (h0 : 0 ≤ n ∧ n ≤ 1048576) (hw : xA l) : FnC Tryz.prog 38 [.o (.d (.sl (l.map aK))), oi n] (oi (bR n (aJ l))) := by
 unfold xA at hw
 refine ent Tryz.func38 rfl Tryz.call38 rfl (fun C => ?_); simp only [go_sem, st0, Tryz.ntmps38]
 by_cases hc : n - (l.length : Nat) < 0
 ·have e : bR n (aJ l) = -1 := by rw [aR (by unfold aJ; omega)]
  have q0 := @hc; refine gH ?_
  exact aA ⟨⟨_, rfl, by simp only [go_sem, e]⟩, trivial⟩
 have q0 := @hc; refine gH ?_
 refine aQ (α := Nat) (fun k => [(5, oi k), (1, oi (n - (l.length : Nat) - (wsum wResult (l.take k) : Nat)))]) (fun _ => []) (fun k => k ≤ l.length ∧ 0 ≤ n - (l.length : Nat) - (wsum wResult (l.take k) : Nat)) (fun k => l.length - k) 0 (fun _ => ?_) ?_ ?_ (fun k hk => ?_)
 ·simp only [go_sem]
 ·simp only [go_sem]; simp [wsum]
 ·simp [wsum]; omega
 ·obtain ⟨hk, hn⟩ := hk
  simp only [go_sem]
  refine aG ?_
  refine cnd rfl (fun h => ?_) (fun h => ?_)
  ·simp only [decide_eq_true_eq, Int.ofNat_lt] at h
   have hs := lY wResult l h
   have ht := tT wResult l (k + 1)
   by_cases h2 : n - (l.length : Nat) - (wsum wResult (l.take k) : Nat) - (wResult l[k] : Nat) < 0
   ·have e : bR n (aJ l) = -1 := by rw [aR (by unfold aJ; omega)]
    have q0 := @h; have q1 := aR h2; refine mR (a1x l[k] _ ⟨hn, by omega⟩ (hw.2 _ (List.getElem_mem h))) ?_
    exact aA ⟨⟨_, rfl, by simp only [go_sem, e]⟩, trivial⟩
   ·have q0 := @h; have q1 := aZ h2; have q2 := @h2; refine mU (a1x l[k] _ ⟨hn, by omega⟩ (hw.2 _ (List.getElem_mem h))) ?_
    refine aF (k + 1) ?_ ?_ ?_
    ·simp only [go_sem]; simp; omega
    ·omega
    ·omega
  ·simp only [decide_eq_false_iff_not] at h
   have e0 : k = l.length := by omega
   subst e0
   rw [List.take_length] at hn
   have e : bR n (aJ l) = n - (l.length : Nat) - (wsum wResult l : Nat) := by rw [aZ (by unfold aJ; omega)]; unfold aJ; omega
   refine aG ?_
   exact aA ⟨⟨_, rfl, by simp only [go_sem, e, List.take_length]⟩, trivial⟩
end Go.Proofs.YteaaopodnbjpoaaGreat
end
section
set_option linter.all false
set_option maxHeartbeats 1000000
namespace Go.Proofs.YteaaopodnbjpoaaGreat
open Go Go.Sx Go.RowKit Go.Proofs
structure TDiff where
 fName : ByteArray
 fAdded : List Int
 fRemoved : List Int
@[go_sem] def fB (x : TDiff) : List D := [sv x.fName, .sl (x.fAdded.map fD), .sl (x.fRemoved.map fD)]
@[go_sem] def b8A (x : TDiff) : SV := .g [.d (sv x.fName), .d (.sl (x.fAdded.map fD)), .d (.sl (x.fRemoved.map fD))]
@[go_sem] def b8B (x : TDiff) : SV := .g [.d (sv x.fName), .w 3 1 (x.fAdded.map fD), .w 3 1 (x.fRemoved.map fD)]
def b7v (x : TDiff) : Nat := x.fName.size + x.fAdded.length + x.fRemoved.length
def b6m (x : TDiff) : Prop := x.fName.size ≤ 9223372036854775807 ∧ a0Q x.fAdded ∧ a0Q x.fRemoved
def b8m (l : List TDiff) : Nat := l.length + wsum b7v l
def b7J (l : List TDiff) : Prop := l.length ≤ 9223372036854775807 ∧ ∀ x ∈ l, b6m x
end Go.Proofs.YteaaopodnbjpoaaGreat
end
section
set_option linter.all false
set_option maxHeartbeats 1000000
namespace Go.Proofs.YteaaopodnbjpoaaGreat
open Go Go.Sx Go.RowKit Go.Proofs
structure TCatalog where
 fStore : TStore
 fDirs : List TDir
 fResults : List TResult
@[go_sem] def a9e (x : TCatalog) : List D := [.sl (x.fStore.fSchema.map bZ), .sl (x.fStore.fFiles.map bN), iv x.fStore.fNextID, .sl (x.fDirs.map aL), .sl (x.fResults.map aK)]
@[go_sem] def bJ (x : TCatalog) : SV := .g [.d (.sl (x.fStore.fSchema.map bZ)), .d (.sl (x.fStore.fFiles.map bN)), .d (iv x.fStore.fNextID), .d (.sl (x.fDirs.map aL)), .d (.sl (x.fResults.map aK))]
@[go_sem] def kH (x : TCatalog) : SV := .g [.w 196 2 (x.fStore.fSchema.map bZ), .w 70 5 (x.fStore.fFiles.map bN), .d (iv x.fStore.fNextID), .w 73 2 (x.fDirs.map aL), .w 141 2 (x.fResults.map aK)]
def wCatalog (x : TCatalog) : Nat := aM x.fStore + aU x.fDirs + aJ x.fResults
def rQ (x : TCatalog) : Prop := wY x.fStore ∧ a3e x.fDirs ∧ xA x.fResults
def b6R (l : List TCatalog) : Nat := l.length + wsum wCatalog l
def b6n (l : List TCatalog) : Prop := l.length ≤ 9223372036854775807 ∧ ∀ x ∈ l, rQ x
theorem a9f {n : Nat} {r : List D} (h : ShD tt n 29 r) : ∃ x : TCatalog, r = a9e x ∧ rQ x := by
 match n, h with
 | n + 1, ⟨a0, b0, e0, h0, a1, b1, e1, h1, a2, b2, e2, h2, ee⟩ =>
  obtain ⟨x0, rfl, p0⟩ := b3b h0
  obtain ⟨x1, rfl, p1⟩ := b4O h1
  obtain ⟨x2, rfl, p2⟩ := a9d h2
  have ee' : b2 = [] := ee
  subst ee' e2 e1 e0
  exact ⟨⟨x0, x1, x2⟩, rfl, p0, p1, p2⟩
theorem a5W (x : TCatalog) (n : Int) (h0 : 0 ≤ n ∧ n ≤ 1048576) (hw : rQ x) : FnC Tryz.prog 7 [bJ x, oi n] (oi (bR n (wCatalog x))) := by
 refine ent Tryz.func7 rfl Tryz.call7 rfl (fun C => ?_); simp only [go_sem, st0, Tryz.ntmps7]
 unfold rQ at hw
 by_cases hc0 : n - (aM x.fStore : Nat) < 0
 ·have e : bR n (wCatalog x) = -1 := by rw [aR (by unfold wCatalog; omega)]
  have q0 := aR hc0; have q1 := @hc0; refine mR (tY x.fStore (n) (by omega) hw.1) ?_
  exact aA ⟨⟨_, rfl, by simp only [go_sem, e]⟩, trivial⟩
 by_cases hc1 : n - (aM x.fStore : Nat) - (aU x.fDirs : Nat) < 0
 ·have e : bR n (wCatalog x) = -1 := by rw [aR (by unfold wCatalog; omega)]
  have q0 := aZ hc0; have q1 := @hc0; have q2 := aR hc1; have q3 := @hc1; refine yL (tY x.fStore (n) (by omega) hw.1) (a0S x.fDirs (n - (aM x.fStore : Nat)) (by omega) hw.2.1) ?_
  exact aA ⟨⟨_, rfl, by simp only [go_sem, e]⟩, trivial⟩
 by_cases hc2 : n - (aM x.fStore : Nat) - (aU x.fDirs : Nat) - (aJ x.fResults : Nat) < 0
 ·have e : bR n (wCatalog x) = -1 := by rw [aR (by unfold wCatalog; omega)]
  have q0 := aZ hc0; have q1 := @hc0; have q2 := aZ hc1; have q3 := @hc1; have q4 := aR hc2; have q5 := @hc2; refine b7k (tY x.fStore (n) (by omega) hw.1) (a0S x.fDirs (n - (aM x.fStore : Nat)) (by omega) hw.2.1) (a0l x.fResults (n - (aM x.fStore : Nat) - (aU x.fDirs : Nat)) (by omega) hw.2.2) ?_
  exact aA ⟨⟨_, rfl, by simp only [go_sem, e]⟩, trivial⟩
 have e : bR n (wCatalog x) = n - (aM x.fStore : Nat) - (aU x.fDirs : Nat) - (aJ x.fResults : Nat) := by rw [aZ (by unfold wCatalog; omega)]; unfold wCatalog; omega
 have q0 := aZ hc0; have q1 := @hc0; have q2 := aZ hc1; have q3 := @hc1; have q4 := aZ hc2; have q5 := @hc2; refine b7k (tY x.fStore (n) (by omega) hw.1) (a0S x.fDirs (n - (aM x.fStore : Nat)) (by omega) hw.2.1) (a0l x.fResults (n - (aM x.fStore : Nat) - (aU x.fDirs : Nat)) (by omega) hw.2.2) ?_
 exact aA ⟨⟨_, rfl, by simp only [go_sem, e]⟩, trivial⟩
theorem a5X (x : TCatalog) (hx : wCatalog x ≤ 1048576) : FnC Tryz.prog 10 [bJ x] (kH x) := by
 unfold wCatalog at hx
 refine ent Tryz.func10 rfl Tryz.call10 rfl (fun C => ?_); simp only [go_sem, st0, Tryz.ntmps10]
 refine b7h (a8Z x.fStore (by omega)) (b1p x.fDirs (by omega)) (a5U x.fResults (by omega)) ?_
 exact aA ⟨⟨_, rfl, by simp only [go_sem]⟩, trivial⟩
theorem a4e (x : TCatalog) (hx : wCatalog x ≤ 1048576) : FnC Tryz.prog 10 [bJ x] (bJ x) := (a5X x hx).pu (by simp only [go_sem, and_self])
theorem a5Y (x : TCatalog) (hx : wCatalog x ≤ 67108864) : FnC Tryz.prog 14 [bJ x, bJ x] (ob true) := by
 unfold wCatalog at hx
 refine ent Tryz.func14 rfl Tryz.call14 rfl (fun C => ?_); simp only [go_sem, st0, Tryz.ntmps14]
 refine b7h (a9a x.fStore (by omega)) (b1q x.fDirs (by omega)) (a5V x.fResults (by omega)) ?_
 exact aA ⟨⟨_, rfl, by simp only [go_sem]⟩, trivial⟩
end Go.Proofs.YteaaopodnbjpoaaGreat
end
section
set_option linter.all false
set_option maxHeartbeats 1000000
namespace Go.Proofs.YteaaopodnbjpoaaGreat
open Go Go.Sx Go.RowKit Go.Proofs
structure TGroup where
 fValue : TValue
 fIDs : List Int
@[go_sem] def b7w (x : TGroup) : List D := [iv x.fValue.fKind, iv x.fValue.fInt, sv x.fValue.fStr, .sl (x.fIDs.map fD)]
@[go_sem] def b8n (x : TGroup) : SV := .g [.d (iv x.fValue.fKind), .d (iv x.fValue.fInt), .d (sv x.fValue.fStr), .d (.sl (x.fIDs.map fD))]
@[go_sem] def b8o (x : TGroup) : SV := .g [.d (iv x.fValue.fKind), .d (iv x.fValue.fInt), .d (sv x.fValue.fStr), .w 3 1 (x.fIDs.map fD)]
def b6o (x : TGroup) : Nat := gP x.fValue + x.fIDs.length
def b4Q (x : TGroup) : Prop := tV x.fValue ∧ a0Q x.fIDs
def b7K (l : List TGroup) : Nat := l.length + wsum b6o l
def b7x (l : List TGroup) : Prop := l.length ≤ 9223372036854775807 ∧ ∀ x ∈ l, b4Q x
end Go.Proofs.YteaaopodnbjpoaaGreat
end
section
set_option linter.all false
set_option maxHeartbeats 1000000
namespace Go.Proofs.YteaaopodnbjpoaaGreat
open Go Go.Sx Go.RowKit Go.Proofs
structure TEdit where
 fOK : Bool
 fSet : List TAttr
@[go_sem] def b7L (x : TEdit) : List D := [bv x.fOK, .sl (x.fSet.map fG)]
@[go_sem] def b8C (x : TEdit) : SV := .g [.d (bv x.fOK), .d (.sl (x.fSet.map fG))]
@[go_sem] def b8D (x : TEdit) : SV := .g [.d (bv x.fOK), .w 117 4 (x.fSet.map fG)]
def b7y (x : TEdit) : Nat := dZ x.fSet
def b6p (x : TEdit) : Prop := True ∧ a0g x.fSet
def b8p (l : List TEdit) : Nat := l.length + wsum b7y l
def b7M (l : List TEdit) : Prop := l.length ≤ 9223372036854775807 ∧ ∀ x ∈ l, b6p x
end Go.Proofs.YteaaopodnbjpoaaGreat
end
section
set_option linter.all false
set_option maxHeartbeats 1000000
namespace Go.Proofs.YteaaopodnbjpoaaGreat
open Go Go.Sx Go.RowKit Go.Proofs
structure TChange where
 fKind : Int
 fFile : TFile
 fID : Int
 fDir : TDir
@[go_sem] def b1x (x : TChange) : List D := [iv x.fKind, iv x.fFile.fID, iv x.fFile.fOwner, bv x.fFile.fShared, iv x.fFile.fLink, .sl (x.fFile.fAttrs.map fG), iv x.fID, sv x.fDir.fName, .sl (x.fDir.fQuery.map bD)]
@[go_sem] def lI (x : TChange) : SV := .g [.d (iv x.fKind), .d (iv x.fFile.fID), .d (iv x.fFile.fOwner), .d (bv x.fFile.fShared), .d (iv x.fFile.fLink), .d (.sl (x.fFile.fAttrs.map fG)), .d (iv x.fID), .d (sv x.fDir.fName), .d (.sl (x.fDir.fQuery.map bD))]
@[go_sem] def b4R (x : TChange) : SV := .g [.d (iv x.fKind), .d (iv x.fFile.fID), .d (iv x.fFile.fOwner), .d (bv x.fFile.fShared), .d (iv x.fFile.fLink), .w 117 4 (x.fFile.fAttrs.map fG), .d (iv x.fID), .d (sv x.fDir.fName), .w 158 7 (x.fDir.fQuery.map bD)]
def wChange (x : TChange) : Nat := wFile x.fFile + wDir x.fDir
def wE (x : TChange) : Prop := inR .i64 x.fKind ∧ a0R x.fFile ∧ inR .i64 x.fID ∧ a4P x.fDir
def b7z (l : List TChange) : Nat := l.length + wsum wChange l
def b6S (l : List TChange) : Prop := l.length ≤ 9223372036854775807 ∧ ∀ x ∈ l, wE x
theorem b1y {n : Nat} {r : List D} (h : ShD tt n 65 r) : ∃ x : TChange, r = b1x x ∧ wE x := by
 match n, h with
 | n + 1, ⟨a0, b0, e0, h0, a1, b1, e1, h1, a2, b2, e2, h2, a3, b3, e3, h3, ee⟩ =>
  obtain ⟨x0, rfl, p0⟩ := a0d h0
  obtain ⟨x1, rfl, p1⟩ := b0e h1
  obtain ⟨x2, rfl, p2⟩ := a0d h2
  obtain ⟨x3, rfl, p3⟩ := b3d h3
  have ee' : b3 = [] := ee
  subst ee' e3 e2 e1 e0
  exact ⟨⟨x0, x1, x2, x3⟩, rfl, p0, p1, p2, p3⟩
theorem a7y (x : TChange) (n : Int) (h0 : 0 ≤ n ∧ n ≤ 1048576) (hw : wE x) : FnC Tryz.prog 24 [lI x, oi n] (oi (bR n (wChange x))) := by
 refine ent Tryz.func24 rfl Tryz.call24 rfl (fun C => ?_); simp only [go_sem, st0, Tryz.ntmps24]
 unfold wE at hw
 by_cases hc0 : n - (wFile x.fFile : Nat) < 0
 ·have e : bR n (wChange x) = -1 := by rw [aR (by unfold wChange; omega)]
  have q0 := aR hc0; have q1 := @hc0; refine mR (rO x.fFile (n) (by omega) hw.2.1) ?_
  exact aA ⟨⟨_, rfl, by simp only [go_sem, e]⟩, trivial⟩
 by_cases hc1 : n - (wFile x.fFile : Nat) - (wDir x.fDir : Nat) < 0
 ·have e : bR n (wChange x) = -1 := by rw [aR (by unfold wChange; omega)]
  have q0 := aZ hc0; have q1 := @hc0; have q2 := aR hc1; have q3 := @hc1; refine yL (rO x.fFile (n) (by omega) hw.2.1) (a0i x.fDir (n - (wFile x.fFile : Nat)) (by omega) hw.2.2.2) ?_
  exact aA ⟨⟨_, rfl, by simp only [go_sem, e]⟩, trivial⟩
 have e : bR n (wChange x) = n - (wFile x.fFile : Nat) - (wDir x.fDir : Nat) := by rw [aZ (by unfold wChange; omega)]; unfold wChange; omega
 have q0 := aZ hc0; have q1 := @hc0; have q2 := aZ hc1; have q3 := @hc1; refine yL (rO x.fFile (n) (by omega) hw.2.1) (a0i x.fDir (n - (wFile x.fFile : Nat)) (by omega) hw.2.2.2) ?_
 exact aA ⟨⟨_, rfl, by simp only [go_sem, e]⟩, trivial⟩
theorem a7z (x : TChange) (hx : wChange x ≤ 1048576) : FnC Tryz.prog 26 [lI x] (b4R x) := by
 unfold wChange at hx
 refine ent Tryz.func26 rfl Tryz.call26 rfl (fun C => ?_); simp only [go_sem, st0, Tryz.ntmps26]
 refine a8R (a4M x.fFile (by omega)) (a7t x.fDir (by omega)) ?_
 exact aA ⟨⟨_, rfl, by simp only [go_sem]⟩, trivial⟩
theorem a5Z (x : TChange) (hx : wChange x ≤ 1048576) : FnC Tryz.prog 26 [lI x] (lI x) := (a7z x hx).pu (by simp only [go_sem, and_self])
theorem a7A (x : TChange) (hx : wChange x ≤ 67108864) : FnC Tryz.prog 28 [lI x, lI x] (ob true) := by
 unfold wChange at hx
 refine ent Tryz.func28 rfl Tryz.call28 rfl (fun C => ?_); simp only [go_sem, st0, Tryz.ntmps28]
 refine a8R (a4N x.fFile (by omega)) (a7u x.fDir (by omega)) ?_
 exact aA ⟨⟨_, rfl, by simp only [go_sem]⟩, trivial⟩
end Go.Proofs.YteaaopodnbjpoaaGreat
end
section
set_option linter.all false
set_option maxHeartbeats 1000000
namespace Go.Proofs.YteaaopodnbjpoaaGreat
open Go Go.Sx Go.RowKit Go.Proofs
structure TSnapshot where
 fStore : TStore
 fDirs : List TDir
@[go_sem] def b5w (x : TSnapshot) : List D := [.sl (x.fStore.fSchema.map bZ), .sl (x.fStore.fFiles.map bN), iv x.fStore.fNextID, .sl (x.fDirs.map aL)]
@[go_sem] def b6T (x : TSnapshot) : SV := .g [.d (.sl (x.fStore.fSchema.map bZ)), .d (.sl (x.fStore.fFiles.map bN)), .d (iv x.fStore.fNextID), .d (.sl (x.fDirs.map aL))]
@[go_sem] def b6U (x : TSnapshot) : SV := .g [.w 196 2 (x.fStore.fSchema.map bZ), .w 70 5 (x.fStore.fFiles.map bN), .d (iv x.fStore.fNextID), .w 73 2 (x.fDirs.map aL)]
def b1z (x : TSnapshot) : Nat := aM x.fStore + aU x.fDirs
def a9g (x : TSnapshot) : Prop := wY x.fStore ∧ a3e x.fDirs
def b6q (l : List TSnapshot) : Nat := l.length + wsum b1z l
def b5x (l : List TSnapshot) : Prop := l.length ≤ 9223372036854775807 ∧ ∀ x ∈ l, a9g x
end Go.Proofs.YteaaopodnbjpoaaGreat
end
section
set_option linter.all false
set_option maxHeartbeats 1000000
namespace Go.Proofs.YteaaopodnbjpoaaGreat
open Go Go.Sx Go.RowKit Go.Proofs
structure TDisk where
 fSlotA : ByteArray
 fSlotB : ByteArray
@[go_sem] def b7N (x : TDisk) : List D := [sv x.fSlotA, sv x.fSlotB]
@[go_sem] def b8E (x : TDisk) : SV := .g [.d (sv x.fSlotA), .d (sv x.fSlotB)]
def b7A (x : TDisk) : Nat := x.fSlotA.size + x.fSlotB.size
def b6r (x : TDisk) : Prop := x.fSlotA.size ≤ 9223372036854775807 ∧ x.fSlotB.size ≤ 9223372036854775807
def b8q (l : List TDisk) : Nat := l.length + wsum b7A l
def b7O (l : List TDisk) : Prop := l.length ≤ 9223372036854775807 ∧ ∀ x ∈ l, b6r x
end Go.Proofs.YteaaopodnbjpoaaGreat
end
section
set_option linter.all false
namespace Go.Proofs.YteaaopodnbjpoaaGreat
open Go Go.Sx Go.RowKit Go.Proofs
def inB (n a b : Int) : Bool := decide (a ≤ n) && decide (n ≤ b)
theorem aP (n a b : Int) : FnC Tryz.prog 175 [oi n, oi a, oi b] (ob (inB n a b)) := by
 refine ent Tryz.func175 rfl Tryz.call175 rfl (fun C => ?_); simp only [go_sem, st0, Tryz.ntmps175]
 by_cases h0 : a ≤ n <;> by_cases h1 : n ≤ b
 all_goals
  have q0 := @h0; have q1 := @h1; have q2 := @decide_false; refine lL ?_
  refine aA ⟨⟨_, rfl, ?_⟩, ?_⟩
  ·simp only [go_sem]; simp [inB, h0, h1]
  ·trivial
theorem aY (n a b : Int) : FnC Tryz.prog 82 [oi n, oi a, oi b] (ob (inB n a b)) := by
 refine ent Tryz.func82 rfl Tryz.call82 rfl (fun C => ?_); simp only [go_sem, st0, Tryz.ntmps82]
 by_cases h0 : a ≤ n <;> by_cases h1 : n ≤ b
 all_goals
  have q0 := @h0; have q1 := @h1; have q2 := @decide_false; refine lL ?_
  refine aA ⟨⟨_, rfl, ?_⟩, ?_⟩
  ·simp only [go_sem]; simp [inB, h0, h1]
  ·trivial
end Go.Proofs.YteaaopodnbjpoaaGreat
end
section
set_option linter.all false
set_option maxHeartbeats 1000000
namespace Go.Proofs.YteaaopodnbjpoaaGreat
open Go Go.Sx Go.RowKit Go.Proofs
end Go.Proofs.YteaaopodnbjpoaaGreat
end
end
section
section
set_option linter.all false
set_option maxRecDepth 100000
set_option maxHeartbeats 4000000
namespace Go.Proofs.YteaaopodnbjpoaaGreat
open Go Go.Sx Go.RowKit Go.Proofs
def b7q (k : Nat) (out : ByteArray) : ByteArray :=
 if h : k = 0 then out else b7q (k / 10) (a4E [(48 : Int) + ((k % 10 : Nat) : Int)] ++ out)
decreasing_by omega
def wC (k : Int) : ByteArray := ⟨#[109]⟩ ++ b7q k.toNat ⟨#[]⟩
def a0k (x : Int) : Nat := 1
def b0f (x : Int) (k : Int) : Int := k
def b8w (x : ByteArray) : Nat := 1
def b8x (x : ByteArray) (k : Int) : ByteArray := (wC k)
def b8g (x : Bool) : Nat := 1
def b8h (x : Bool) (k : Int) : Bool := (decide (Int.tmod k 3 = 0))
end Go.Proofs.YteaaopodnbjpoaaGreat
end
section
set_option linter.all false
set_option maxRecDepth 100000
set_option maxHeartbeats 4000000
namespace Go.Proofs.YteaaopodnbjpoaaGreat
open Go Go.Sx Go.RowKit Go.Proofs
def b7F (x : TField) : Nat := 2
def b7G (x : TField) (k : Int) : TField := ⟨(wC k), (k + 1)⟩
def yO (x : TAttr) : Nat := 4
def b3g (x : TAttr) (k : Int) : TAttr := ⟨(wC k), ⟨(k + 1), ((k + 1) + 1), (wC (((k + 1) + 1) + 1))⟩⟩
def a5T (x : TNode) : Nat := 7
def b3h (x : TNode) (k : Int) : TNode := ⟨k, (k + 1), ((k + 1) + 1), (wC (((k + 1) + 1) + 1)), ⟨((((k + 1) + 1) + 1) + 1), (((((k + 1) + 1) + 1) + 1) + 1), (wC ((((((k + 1) + 1) + 1) + 1) + 1) + 1))⟩⟩
end Go.Proofs.YteaaopodnbjpoaaGreat
end
section
set_option linter.all false
set_option maxRecDepth 100000
set_option maxHeartbeats 4000000
namespace Go.Proofs.YteaaopodnbjpoaaGreat
open Go Go.Sx Go.RowKit Go.Proofs
def b8i (x : TFile) : Nat := 4 + xL yO x.fAttrs
def b8j (x : TFile) (k : Int) : TFile := ⟨k, (k + 1), (decide (Int.tmod ((k + 1) + 1) 3 = 0)), (((k + 1) + 1) + 1), (mkL b3g yO x.fAttrs ((((k + 1) + 1) + 1) + 1))⟩
def b8y (x : TDir) : Nat := 1 + xL a5T x.fQuery
def b8z (x : TDir) (k : Int) : TDir := ⟨(wC k), (mkL b3h a5T x.fQuery (k + 1))⟩
def b7r (x : TResult) : Nat := 1 + xL a0k x.fIDs
def b7s (x : TResult) (k : Int) : TResult := ⟨(wC k), (mkL b0f a0k x.fIDs (k + 1))⟩
def b8k (x : TDiff) : Nat := 1 + xL a0k x.fAdded + xL a0k x.fRemoved
def b8l (x : TDiff) (k : Int) : TDiff := ⟨(wC k), (mkL b0f a0k x.fAdded (k + 1)), (mkL b0f a0k x.fRemoved ((k + 1) + (xL a0k x.fAdded : Nat)))⟩
def b7H (x : TGroup) : Nat := 3 + xL a0k x.fIDs
def b7I (x : TGroup) (k : Int) : TGroup := ⟨⟨k, (k + 1), (wC ((k + 1) + 1))⟩, (mkL b0f a0k x.fIDs (((k + 1) + 1) + 1))⟩
def b7t (x : TChange) : Nat := 7 + xL yO x.fFile.fAttrs + xL a5T x.fDir.fQuery
def b7u (x : TChange) (k : Int) : TChange := ⟨k, ⟨(k + 1), ((k + 1) + 1), (decide (Int.tmod (((k + 1) + 1) + 1) 3 = 0)), ((((k + 1) + 1) + 1) + 1), (mkL b3g yO x.fFile.fAttrs (((((k + 1) + 1) + 1) + 1) + 1))⟩, ((((((k + 1) + 1) + 1) + 1) + 1) + (xL yO x.fFile.fAttrs : Nat)), ⟨(wC (((((((k + 1) + 1) + 1) + 1) + 1) + (xL yO x.fFile.fAttrs : Nat)) + 1)), (mkL b3h a5T x.fDir.fQuery ((((((((k + 1) + 1) + 1) + 1) + 1) + (xL yO x.fFile.fAttrs : Nat)) + 1) + 1))⟩⟩
end Go.Proofs.YteaaopodnbjpoaaGreat
end
section
set_option linter.all false
set_option maxRecDepth 100000
set_option maxHeartbeats 4000000
namespace Go.Proofs.YteaaopodnbjpoaaGreat
open Go Go.Sx Go.RowKit Go.Proofs
end Go.Proofs.YteaaopodnbjpoaaGreat
end
section
set_option linter.all false
namespace Go.Proofs.YteaaopodnbjpoaaGreat
open Go Go.Sx Go.RowKit Go.Proofs
end Go.Proofs.YteaaopodnbjpoaaGreat
end
end
section
set_option maxRecDepth 100000
set_option maxHeartbeats 4000000
namespace Go.Proofs.YteaaopodnbjpoaaGreat
open Go Go.Sx Go.RowKit Go.Proofs
def hasS (l : List ByteArray) (s : ByteArray) : Bool := l.any fun x => decide (x = s)
theorem b1u (l : List ByteArray) (s : ByteArray) (k : Nat) (h : k < l.length) : hasS (l.drop k) s = (decide (l[k] = s) || hasS (l.drop (k + 1)) s) := by
 rw [List.drop_eq_getElem_cons h]; rfl
theorem gU (l : List ByteArray) (s : ByteArray) (hl : l.length ≤ 4300000) : FnC Tryz.prog 223 [.o (.d (.sl (l.map bU))), os s] (ob (hasS l s)) := by
 refine ent Tryz.func223 rfl Tryz.call223 rfl (fun C => ?_); simp only [go_sem, st0, Tryz.ntmps223]
 refine aG ?_
 refine aQ (α := Nat) (fun k => [(5, oi k)]) (fun k => []) (fun k => k ≤ l.length ∧ hasS (l.drop k) s = hasS l s) (fun k => l.length - k) 0 (fun _ => ?_) ?_ ?_ (fun k hk => ?_)
 ·simp only [go_sem]; try simp
 ·simp only [go_sem]; try simp
 ·simp
 ·simp only [go_sem]
  obtain ⟨hk, hg⟩ := hk
  refine aG ?_
  refine cnd rfl (fun h1 => ?_) (fun h1 => ?_)
  ·simp only [decide_eq_true_eq, Int.ofNat_lt] at h1
   have hd := b1u l s k h1
   rw [hg] at hd
   have q0 := @h1; refine gH ?_
   refine cnd rfl (fun hv => ?_) (fun hv => ?_)
   ·rw [hv, Bool.true_or] at hd
    refine aG ?_
    exact aA ⟨⟨_, rfl, by simp only [go_sem, hd]⟩, trivial⟩
   ·rw [hv, Bool.false_or] at hd
    refine aG ?_
    refine aF (k + 1) ?_ ?_ ?_
    ·simp only [go_sem]; try simp
    ·exact ⟨by omega, hd.symm⟩
    ·omega
  ·simp only [decide_eq_false_iff_not] at h1
   have e : k = l.length := by omega
   subst e
   have hn : hasS l s = false := by rw [← hg, List.drop_length]; rfl
   refine aG ?_
   exact aA ⟨⟨_, rfl, by simp only [go_sem, hn]⟩, trivial⟩
theorem b1v (l : List ByteArray) (s : ByteArray) (hl : l.length ≤ 4300000) : FnC Tryz.prog 239 [.o (.d (.sl (l.map bU))), os s] (oi (dQ (fun x => decide (s = x)) l 0)) := by
 refine ent Tryz.func239 rfl Tryz.call239 rfl (fun C => ?_); simp only [go_sem, st0, Tryz.ntmps239]
 refine aG ?_
 refine aQ (α := Nat) (fun k => [(8, oi k)]) (fun _ => []) (fun k => k ≤ l.length ∧ dQ (fun x => decide (s = x)) l 0 = dQ (fun x => decide (s = x)) (l.drop k) k) (fun k => l.length - k) 0 (fun _ => ?_) ?_ ?_ (fun k hk => ?_)
 ·simp only [go_sem]
 ·simp only [go_sem]; simp
 ·simp
 ·obtain ⟨hk, hq⟩ := hk
  simp only [go_sem]
  refine aG ?_
  refine cnd rfl (fun h => ?_) (fun h => ?_)
  ·simp only [decide_eq_true_eq, Int.ofNat_lt] at h
   have hd := List.drop_eq_getElem_cons h
   rw [hd, dQ] at hq
   have q0 := @h; refine gH ?_
   refine cnd rfl (fun h2 => ?_) (fun h2 => ?_)
   ·refine aG ?_
    exact aA ⟨⟨_, rfl, by simp only [go_sem, hq, h2]⟩, trivial⟩
   ·refine aG ?_
    refine aF (k + 1) ?_ ?_ ?_
    ·simp only [go_sem]; simp
    ·rw [hq, h2]; exact ⟨h, by simp⟩
    ·omega
  ·simp only [decide_eq_false_iff_not] at h
   have e : k = l.length := by omega
   subst e
   simp only [List.drop_length, dQ] at hq
   refine aG ?_
   exact aA ⟨⟨_, rfl, by simp only [go_sem, hq]⟩, trivial⟩
theorem wB {α : Type} (p : α → Bool) : ∀ (l : List α) (k : Nat), decide (0 ≤ dQ p l k) = l.any p
 | [], _ => by simp [dQ]
 | x :: xs, k => by
  simp only [dQ, List.any_cons]
  by_cases h : p x = true
  ·simp [h]
  ·rw [Bool.not_eq_true] at h
   simpa [h] using wB p xs (k + 1)
theorem b3f (l : List ByteArray) (s : ByteArray) : decide (0 ≤ dQ (fun x => decide (s = x)) l 0) = hasS l s := by
 rw [wB]; unfold hasS
 congr 1; funext x; congr 1; exact propext eq_comm
theorem eO (l : List ByteArray) (s : ByteArray) (hl : l.length ≤ 4300000) : FnC Tryz.prog 190 [.o (.d (.sl (l.map bU))), os s] (ob (hasS l s)) := by
 refine ent Tryz.func190 rfl Tryz.call190 rfl (fun C => ?_); simp only [go_sem, st0, Tryz.ntmps190]
 refine fQ (b1v l s hl) ?_
 exact aA ⟨⟨_, rfl, by simp only [go_sem, b3f]⟩, trivial⟩
def dirNs (l : List TDir) : List ByteArray := l.map TDir.fName
theorem kV (l : List TDir) : (dirNs l).length = l.length := by simp [dirNs]
theorem pQ (l : List TDir) (hl : l.length ≤ 4300000) : FnC Tryz.prog 167 [.o (.d (.sl (l.map aL)))] (.o (.w 9 1 ((dirNs l).map bU))) := by
 refine ent Tryz.func167 rfl Tryz.call167 rfl (fun C => ?_); simp only [go_sem, st0, Tryz.ntmps167]
 refine aG ?_
 refine aQ (α := Nat) (fun k => [(3, .o (.s 0)), (6, .o .u), (9, oi k)]) (fun k => [(0, .row 9 1 ((dirNs (l.take k)).map bU) true)]) (fun k => k ≤ l.length) (fun k => l.length - k) 0 (fun _ => ?_) ?_ ?_ (fun k hk => ?_)
 ·simp only [go_sem]
 ·simp only [go_sem]; simp [dirNs]
 ·simp
 ·simp only [go_sem]
  refine aG ?_
  refine cnd rfl (fun h1 => ?_) (fun h1 => ?_)
  ·simp only [decide_eq_true_eq, Int.ofNat_lt] at h1
   have ht : dirNs (l.take (k + 1)) = dirNs (l.take k) ++ [l[k].fName] := by simp only [dirNs, List.take_succ_eq_append_getElem h1, List.map_append, List.map_cons, List.map_nil]
   have hlen : (dirNs (l.take k)).length = k := by rw [kV]; simp; omega
   have q0 := @h1; have q1 := @hlen; refine lK ?_
   refine aF (k + 1) ?_ ?_ ?_
   ·simp only [go_sem, ht, List.map_append]; simp
   ·omega
   ·omega
  ·simp only [decide_eq_false_iff_not] at h1
   have e : k = l.length := by omega
   subst e
   refine aG ?_
   exact aA ⟨⟨_, rfl, by simp only [go_sem, List.take_length]⟩, trivial⟩
def uD (names : List ByteArray) (l : List TDir) : List ByteArray := (dirNs l).filter fun n => !hasS names n
end Go.Proofs.YteaaopodnbjpoaaGreat
end
section
set_option maxRecDepth 100000
namespace Go.Proofs.YteaaopodnbjpoaaGreat
open Go Go.Sx Go.RowKit Go.Proofs
theorem b8r {α : Type} (l : List α) : (l.all fun _ => true) = true := by simp
theorem wF (l : List Int) (hl : l.length ≤ 67108864) : FnC Tryz.prog 174 [.o (.d (.sl (l.map fD)))] (.o (.w 3 1 (l.map fD))) := by
 refine ent Tryz.func174 rfl Tryz.call174 rfl (fun C => ?_); simp only [go_sem, st0, Tryz.ntmps174]
 refine aG ?_
 intro b hb
 refine aG ?_
 refine cnd rfl (fun h1 => ?_) (fun h1 => ?_)
 ·have e := hb h1
  simp only [List.map_eq_nil_iff] at e
  subst e
  refine aG ?_
  exact aA ⟨⟨_, rfl, by simp only [go_sem]⟩, trivial⟩
 ·refine aG ?_
  exact aA ⟨⟨_, rfl, by simp only [go_sem, b8r]⟩, trivial⟩
end Go.Proofs.YteaaopodnbjpoaaGreat
end
section
set_option maxRecDepth 100000
set_option maxHeartbeats 4000000
namespace Go.Proofs.YteaaopodnbjpoaaGreat
open Go Go.Sx Go.RowKit Go.Proofs
def low (s : ByteArray) (k : Nat) : Bool := inB (lD s k) 97 122
def nH (s : ByteArray) : Bool := (List.range s.size).all (low s)
def bV (s : ByteArray) (n : Int) : Bool := nH s && inB s.size 1 n
theorem a3j (s : ByteArray) (n : Int) (hs : s.size ≤ 4300000) : FnC Tryz.prog 303 [os s, oi n] (ob (bV s n)) := by
 refine ent Tryz.func303 rfl Tryz.call303 rfl (fun C => ?_); simp only [go_sem, st0, Tryz.ntmps303]
 refine aG ?_
 refine aQ (α := Nat) (fun k => [(5, oi k)]) (fun _ => []) (fun k => k ≤ s.size ∧ nH s = ((List.range s.size).drop k).all (low s)) (fun k => s.size - k) 0 (fun _ => ?_) ?_ ?_ (fun k hk => ?_)
 ·simp only [go_sem]
 ·simp only [go_sem]; simp
 ·simp [nH]
 ·obtain ⟨hk, hq⟩ := hk
  simp only [go_sem]
  refine aG ?_
  refine cnd rfl (fun h => ?_) (fun h => ?_)
  ·simp only [decide_eq_true_eq, Int.ofNat_lt] at h
   have h' : k < (List.range s.size).length := by simpa using h
   have hd := List.drop_eq_getElem_cons h'
   rw [hd, List.all_cons, List.getElem_range] at hq
   have hb := a4A s k
   by_cases h1 : lD s k < 97
   ·have hf : nH s = false := by rw [hq]; simp [low, inB]; omega
    have q0 := @h; have q1 := @h1; refine lK ?_
    exact aA ⟨⟨_, rfl, by simp only [go_sem, bV, hf, Bool.false_and]⟩, trivial⟩
   by_cases h2 : 122 < lD s k
   ·have hf : nH s = false := by rw [hq]; simp [low, inB]; omega
    have q0 := @h; have q1 := @h1; have q2 := @h2; have q3 := @decide_false; refine lX ?_
    exact aA ⟨⟨_, rfl, by simp only [go_sem, bV, hf, Bool.false_and]⟩, trivial⟩
   ·have q0 := @h; have q1 := @h1; have q2 := @h2; have q3 := @decide_false; refine lX ?_
    refine aF (k + 1) ?_ ?_ ?_
    ·simp only [go_sem]; simp
    ·refine ⟨h, ?_⟩
     have hl : low s k = true := by simp [low, inB]; omega
     rw [hq, hl]; simp
    ·omega
  ·simp only [decide_eq_false_iff_not] at h
   have e : k = s.size := by omega
   have hq' : nH s = true := by
    rw [hq, List.drop_of_length_le (by simp [e])]; rfl
   refine fQ (aY s.size 1 n) ?_
   refine aA ⟨⟨_, rfl, ?_⟩, ?_⟩
   ·simp only [go_sem, bV, hq']
   ·trivial
theorem aN (s : ByteArray) (hs : s.size ≤ 4300000) : FnC Tryz.prog 289 [os s] (ob (bV s 1)) := by
 refine ent Tryz.func289 rfl Tryz.call289 rfl (fun C => ?_); simp only [go_sem, st0, Tryz.ntmps289]
 refine fQ (a3j s 1 hs) ?_
 refine aA ⟨⟨_, rfl, ?_⟩, ?_⟩
 ·simp only [go_sem]
 ·trivial
theorem b4S (s : ByteArray) : bV s 1 = (decide ((s.size : Int) = 1) && low s 0) := by
 unfold bV nH inB
 rcases Nat.lt_trichotomy s.size 1 with h | h | h
 ·have : s.size = 0 := by omega
  simp [this]
 ·simp [h, List.range_succ]
 ·have h1 : ¬ ((s.size : Int) ≤ 1) := by omega
  have h2 : ¬ ((s.size : Int) = 1) := by omega
  simp [h1, h2]
theorem aB (s : ByteArray) : FnC Tryz.prog 293 [os s] (ob (bV s 1)) := by
 rw [b4S]
 refine ent Tryz.func293 rfl Tryz.call293 rfl (fun C => ?_); simp only [go_sem, st0, Tryz.ntmps293]
 by_cases h0 : (s.size : Int) = 1
 ·have h0' : 0 < s.size := by omega
  by_cases h1 : 97 ≤ lD s 0 <;> by_cases h2 : lD s 0 ≤ 122
  all_goals
   have q0 := @h0; have q1 := @h0'; have q2 := @h1; have q3 := @h2; have q4 := @decide_false; have q5 := @Int.toNat_zero; have q6 := @Int.le_refl; refine a5M ?_
   refine aA ⟨⟨_, rfl, ?_⟩, ?_⟩
   ·simp only [go_sem]; simp [h0, h1, h2, low, inB]
   ·trivial
 ·have q0 := @h0; have q1 := @decide_false; refine lK ?_
  refine aA ⟨⟨_, rfl, ?_⟩, ?_⟩
  ·simp only [go_sem]; simp [h0]
  ·trivial
theorem bK (s : ByteArray) (hs : s.size ≤ 4300000) : FnC Tryz.prog 269 [os s] (ob (bV s 6)) := by
 refine ent Tryz.func269 rfl Tryz.call269 rfl (fun C => ?_); simp only [go_sem, st0, Tryz.ntmps269]
 refine fQ (a3j s 6 hs) ?_
 exact aA ⟨⟨_, rfl, by simp only [go_sem]⟩, trivial⟩
theorem bA (s : ByteArray) (hs : s.size ≤ 4300000) : FnC Tryz.prog 237 [os s] (ob (bV s 6)) := by
 refine ent Tryz.func237 rfl Tryz.call237 rfl (fun C => ?_); simp only [go_sem, st0, Tryz.ntmps237]
 refine aG ?_
 refine aQ (α := Nat) (fun k => [(6, oi k)]) (fun _ => []) (fun k => k ≤ s.size ∧ nH s = ((List.range s.size).drop k).all (low s)) (fun k => s.size - k) 0 (fun _ => ?_) ?_ ?_ (fun k hk => ?_)
 ·simp only [go_sem]
 ·simp only [go_sem]; simp
 ·simp [nH]
 ·obtain ⟨hk, hq⟩ := hk
  simp only [go_sem]
  refine aG ?_
  refine cnd rfl (fun h => ?_) (fun h => ?_)
  ·simp only [decide_eq_true_eq, Int.ofNat_lt] at h
   have h' : k < (List.range s.size).length := by simpa using h
   have hd := List.drop_eq_getElem_cons h'
   rw [hd, List.all_cons, List.getElem_range] at hq
   have hb := a4A s k
   by_cases h1 : lD s k < 97
   ·have hf : nH s = false := by rw [hq]; simp [low, inB]; omega
    have q0 := @h; have q1 := @h1; refine lK ?_
    exact aA ⟨⟨_, rfl, by simp only [go_sem, bV, hf, Bool.false_and]⟩, trivial⟩
   by_cases h2 : 122 < lD s k
   ·have hf : nH s = false := by rw [hq]; simp [low, inB]; omega
    have q0 := @h; have q1 := @h1; have q2 := @h2; have q3 := @decide_false; refine lX ?_
    exact aA ⟨⟨_, rfl, by simp only [go_sem, bV, hf, Bool.false_and]⟩, trivial⟩
   ·have q0 := @h; have q1 := @h1; have q2 := @h2; have q3 := @decide_false; refine lX ?_
    refine aF (k + 1) ?_ ?_ ?_
    ·simp only [go_sem]; simp
    ·refine ⟨h, ?_⟩
     have hl : low s k = true := by simp [low, inB]; omega
     rw [hq, hl]; simp
    ·omega
  ·simp only [decide_eq_false_iff_not] at h
   have e : k = s.size := by omega
   have hq' : nH s = true := by
    rw [hq, List.drop_of_length_le (by simp [e])]; rfl
   refine fQ (aP s.size 1 6) ?_
   refine aA ⟨⟨_, rfl, ?_⟩, ?_⟩
   ·simp only [go_sem, bV, hq']
   ·trivial
def gZ (v : TValue) : Bool :=
 if v.fKind = 0 then decide (v.fInt = 0) && decide (v.fStr = ⟨#[]⟩)
 else if v.fKind = 1 then inB v.fInt 0 999 && decide (v.fStr = ⟨#[]⟩)
 else if v.fKind = 2 then bV v.fStr 6 && decide (v.fInt = 0) else false
theorem aD (v : TValue) (hs : v.fStr.size ≤ 4300000) : FnC Tryz.prog 294 [oM v] (ob (gZ v)) := by
 refine ent Tryz.func294 rfl Tryz.call294 rfl (fun C => ?_); simp only [go_sem, st0, Tryz.ntmps294]
 by_cases h0 : v.fKind = 0
 ·have q0 := @h0; have q1 := @decide_true; refine lK ?_
  exact aA ⟨⟨_, rfl, by simp only [go_sem, gZ, h0, if_true, decide_true, Bool.true_and]⟩, trivial⟩
 by_cases h1 : v.fKind = 1
 ·cases hb : inB v.fInt 0 999
  ·have q0 := @h0; have q1 := @h1; have q2 := @decide_true; have q3 := @decide_false; have q4 := @hb; refine a1Q (aP v.fInt 0 999) ?_
   exact aA ⟨⟨_, rfl, by simp only [go_sem, gZ, h0, h1, hb, if_true, if_false, Bool.false_and]⟩, trivial⟩
  ·have q0 := @h0; have q1 := @h1; have q2 := @decide_true; have q3 := @decide_false; have q4 := @hb; refine a1Q (aP v.fInt 0 999) ?_
   exact aA ⟨⟨_, rfl, by simp only [go_sem, gZ, h0, h1, hb, if_true, if_false, Bool.true_and]⟩, trivial⟩
 by_cases h2 : v.fKind = 2
 ·cases hb : bV v.fStr 6
  ·have q0 := @h0; have q1 := @h1; have q2 := @h2; have q3 := @decide_true; have q4 := @decide_false; have q5 := @hb; refine a1R (bA v.fStr hs) ?_
   exact aA ⟨⟨_, rfl, by simp only [go_sem, gZ, h0, h1, h2, hb, if_true, if_false, Bool.false_and]⟩, trivial⟩
  ·have q0 := @h0; have q1 := @h1; have q2 := @h2; have q3 := @decide_true; have q4 := @decide_false; have q5 := @hb; refine a1R (bA v.fStr hs) ?_
   exact aA ⟨⟨_, rfl, by simp only [go_sem, gZ, h0, h1, h2, hb, if_true, if_false, Bool.true_and]⟩, trivial⟩
 ·have q0 := @h0; have q1 := @h1; have q2 := @h2; have q3 := @decide_false; refine lX ?_
  exact aA ⟨⟨_, rfl, by simp only [go_sem, gZ, h0, h1, h2, if_false]⟩, trivial⟩
theorem bI (v : TValue) (hs : v.fStr.size ≤ 4300000) : FnC Tryz.prog 290 [oM v] (ob (gZ v)) := by
 refine ent Tryz.func290 rfl Tryz.call290 rfl (fun C => ?_); simp only [go_sem, st0, Tryz.ntmps290]
 by_cases h0 : v.fKind = 0
 ·have q0 := @h0; have q1 := @decide_true; refine lK ?_
  exact aA ⟨⟨_, rfl, by simp only [go_sem, gZ, h0, if_true, decide_true, Bool.true_and]⟩, trivial⟩
 by_cases h1 : v.fKind = 1
 ·cases hb : inB v.fInt 0 999
  ·have q0 := @h0; have q1 := @h1; have q2 := @decide_true; have q3 := @decide_false; have q4 := @hb; refine a1Q (aY v.fInt 0 999) ?_
   exact aA ⟨⟨_, rfl, by simp only [go_sem, gZ, h0, h1, hb, if_true, if_false, Bool.false_and]⟩, trivial⟩
  ·have q0 := @h0; have q1 := @h1; have q2 := @decide_true; have q3 := @decide_false; have q4 := @hb; refine a1Q (aY v.fInt 0 999) ?_
   exact aA ⟨⟨_, rfl, by simp only [go_sem, gZ, h0, h1, hb, if_true, if_false, Bool.true_and]⟩, trivial⟩
 by_cases h2 : v.fKind = 2
 ·cases hb : bV v.fStr 6
  ·have q0 := @h0; have q1 := @h1; have q2 := @h2; have q3 := @decide_true; have q4 := @decide_false; have q5 := @hb; refine a1R (bK v.fStr hs) ?_
   exact aA ⟨⟨_, rfl, by simp only [go_sem, gZ, h0, h1, h2, hb, if_true, if_false, Bool.false_and]⟩, trivial⟩
  ·have q0 := @h0; have q1 := @h1; have q2 := @h2; have q3 := @decide_true; have q4 := @decide_false; have q5 := @hb; refine a1R (bK v.fStr hs) ?_
   exact aA ⟨⟨_, rfl, by simp only [go_sem, gZ, h0, h1, h2, hb, if_true, if_false, Bool.true_and]⟩, trivial⟩
 ·have q0 := @h0; have q1 := @h1; have q2 := @h2; have q3 := @decide_false; refine lX ?_
  exact aA ⟨⟨_, rfl, by simp only [go_sem, gZ, h0, h1, h2, if_false]⟩, trivial⟩
end Go.Proofs.YteaaopodnbjpoaaGreat
end
section
set_option maxRecDepth 100000
set_option maxHeartbeats 4000000
namespace Go.Proofs.YteaaopodnbjpoaaGreat
open Go Go.Sx Go.RowKit Go.Proofs
def two (n : TNode) : Bool := decide (n.fOp = 6) || decide (n.fOp = 7)
def tZ (n : TNode) (i : Int) : Nat := (if (two n || decide (n.fOp = 5)) && decide (n.fLeft = i) then 1 else 0) + (if two n && decide (n.fRight = i) then 1 else 0)
def refs (q : List TNode) (i : Int) : Nat := match q with
 | [] => 0
 | n :: q => tZ n i + refs q i
theorem b3i (q r : List TNode) (i : Int) : refs (q ++ r) i = refs q i + refs r i := by
 induction q with
 | nil => simp [refs]
 | cons n q ih => simp only [List.cons_append, refs, ih]; omega
theorem a4S (q : List TNode) (i : Int) (k : Nat) (h : k < q.length) : refs (q.take (k + 1)) i = refs (q.take k) i + tZ q[k] i := by
 rw [List.take_succ_eq_append_getElem h, b3i]; simp [refs]
theorem b0g (q : List TNode) (i : Int) : refs q i ≤ 2 * q.length := by
 induction q with
 | nil => simp [refs]
 | cons n q ih => simp only [refs, List.length_cons]; unfold tZ; split <;> split <;> omega
theorem uC (q : List TNode) (i : Int) (hl : q.length ≤ 4300000) : FnC Tryz.prog 256 [.o (.d (.sl (q.map bD))), oi i] (oi (refs q i)) := by
 refine ent Tryz.func256 rfl Tryz.call256 rfl (fun C => ?_); simp only [go_sem, st0, Tryz.ntmps256]
 refine aG ?_
 refine aQ (α := Nat) (fun k => [(5, oi (refs (q.take k) i)), (11, oi k)]) (fun _ => []) (fun k => k ≤ q.length) (fun k => q.length - k) 0 (fun _ => ?_) ?_ ?_ (fun k hk => ?_)
 ·simp only [go_sem]
 ·simp only [go_sem]; simp [refs]
 ·simp
 ·simp only [go_sem]
  refine aG ?_
  refine cnd rfl (fun h1 => ?_) (fun h1 => ?_)
  ·simp only [decide_eq_true_eq, Int.ofNat_lt] at h1
   have ht := a4S q i k h1
   have hle := b0g (q.take k) i
   simp only [List.length_take] at hle
   by_cases c6 : q[k].fOp = 6 <;> by_cases c7 : q[k].fOp = 7 <;> by_cases c5 : q[k].fOp = 5 <;> by_cases cl : q[k].fLeft = i <;> by_cases cr : q[k].fRight = i
   all_goals (try omega)
   all_goals
    simp only [tZ, two, c5, c6, c7, cl, cr, decide_true, decide_false, Bool.true_or, Bool.or_true, Bool.false_or, Bool.or_false, Bool.and_true, Bool.and_false, Bool.true_and, Bool.false_and, if_true, if_false, Bool.false_eq_true] at ht
    have d5 : decide (q[k].fOp = 5) = decide (q[k].fOp = 5) := rfl
    have q0 := @h1; have q1 := @c5; have q2 := @c6; have q3 := @c7; have q4 := @cl; have q5 := @cr; have q6 := @decide_true; have q7 := @decide_false; refine a2P ?_
    refine aF (k + 1) ?_ ?_ ?_
    ·simp only [go_sem, ht]; simp <;> omega
    ·omega
    ·omega
  ·simp only [decide_eq_false_iff_not] at h1
   have e : k = q.length := by omega
   subst e
   rw [List.take_length]
   refine aG ?_
   exact aA ⟨⟨_, rfl, by simp only [go_sem, List.take_length]⟩, trivial⟩
theorem uE (q : List TNode) (i : Int) (hl : q.length ≤ 4300000) : FnC Tryz.prog 249 [.o (.d (.sl (q.map bD))), oi i] (oi (refs q i)) := by
 refine ent Tryz.func249 rfl Tryz.call249 rfl (fun C => ?_); simp only [go_sem, st0, Tryz.ntmps249]
 refine aG ?_
 refine aQ (α := Nat) (fun k => [(5, oi (refs (q.take k) i)), (6, oi k)]) (fun _ => []) (fun k => k ≤ q.length) (fun k => q.length - k) 0 (fun _ => ?_) ?_ ?_ (fun k hk => ?_)
 ·simp only [go_sem]
 ·simp only [go_sem]; simp [refs]
 ·simp
 ·simp only [go_sem]
  refine aG ?_
  refine cnd rfl (fun h1 => ?_) (fun h1 => ?_)
  ·simp only [decide_eq_true_eq, Int.ofNat_lt] at h1
   have ht := a4S q i k h1
   have hle := b0g (q.take k) i
   simp only [List.length_take] at hle
   by_cases c6 : q[k].fOp = 6 <;> by_cases c7 : q[k].fOp = 7 <;> by_cases c5 : q[k].fOp = 5 <;> by_cases cl : q[k].fLeft = i <;> by_cases cr : q[k].fRight = i
   all_goals (try omega)
   all_goals
    simp only [tZ, two, c5, c6, c7, cl, cr, decide_true, decide_false, Bool.true_or, Bool.or_true, Bool.false_or, Bool.or_false, Bool.and_true, Bool.and_false, Bool.true_and, Bool.false_and, if_true, if_false, Bool.false_eq_true] at ht
    have d5 : decide (q[k].fOp = 5) = decide (q[k].fOp = 5) := rfl
    have q0 := @h1; have q1 := @c5; have q2 := @c6; have q3 := @c7; have q4 := @cl; have q5 := @cr; have q6 := @decide_true; have q7 := @decide_false; refine a2P ?_
    refine aF (k + 1) ?_ ?_ ?_
    ·simp only [go_sem, ht]; simp <;> omega
    ·omega
    ·omega
  ·simp only [decide_eq_false_iff_not] at h1
   have e : k = q.length := by omega
   subst e
   rw [List.take_length]
   refine aG ?_
   exact aA ⟨⟨_, rfl, by simp only [go_sem, List.take_length]⟩, trivial⟩
end Go.Proofs.YteaaopodnbjpoaaGreat
end
