/- Joined texts. -/
import Derived.Test.YtlmpmpddakhfnaaDoorZ08
import Derived.Test.YtlmpmpddakhfnaaDoorZ09
import Derived.Test.YtlmpmpddakhfnaaDoorZ06
set_option linter.all false
section
set_option maxRecDepth 100000
set_option maxHeartbeats 4000000
namespace Go.Proofs.YtlmpmpddakhfnaaDoor
open Go Go.Sx Go.RowKit Go.Proofs
def gV : List TField := [⟨⟨#[97]⟩, 1⟩, ⟨⟨#[98]⟩, 1⟩, ⟨⟨#[110]⟩, 2⟩, ⟨⟨#[116]⟩, 2⟩]
def pc (s : ByteArray) : Option TValue → List TAttr
 | none => []
 | some v => [⟨s, v⟩]
def pcs (a b n t : Option TValue) : List TAttr := pc ⟨#[97]⟩ a ++ (pc ⟨#[98]⟩ b ++ (pc ⟨#[110]⟩ n ++ pc ⟨#[116]⟩ t))
theorem a0l : fM ⟨#[97]⟩ ⟨#[98]⟩ = true := by decide +kernel
theorem a0m : fM ⟨#[97]⟩ ⟨#[110]⟩ = true := by decide +kernel
theorem a0n : fM ⟨#[97]⟩ ⟨#[116]⟩ = true := by decide +kernel
theorem a0o : fM ⟨#[98]⟩ ⟨#[110]⟩ = true := by decide +kernel
theorem a0p : fM ⟨#[98]⟩ ⟨#[116]⟩ = true := by decide +kernel
theorem a0q : fM ⟨#[110]⟩ ⟨#[116]⟩ = true := by decide +kernel
theorem a7M (x : Int) : lS ⟨#[97]⟩ ⟨1, x, ⟨#[]⟩⟩ (pcs none none none none) = pcs (some ⟨1, x, ⟨#[]⟩⟩) none none none := by
 simp [lS, iA, isName, fH, gF, jI, pcs, pc]
theorem a7N (x : Int) (a : Option TValue) : lS ⟨#[98]⟩ ⟨1, x, ⟨#[]⟩⟩ (pcs a none none none) = pcs a (some ⟨1, x, ⟨#[]⟩⟩) none none := by
 cases a <;> simp [lS, iA, isName, fH, gF, jI, pcs, pc, a0l]
theorem a7O (s : ByteArray) (a b : Option TValue) : lS ⟨#[110]⟩ ⟨2, 0, s⟩ (pcs a b none none) = pcs a b (some ⟨2, 0, s⟩) none := by
 cases a <;> cases b <;> simp [lS, iA, isName, fH, gF, jI, pcs, pc, a0m, a0o]
theorem a7P (s : ByteArray) (a b n : Option TValue) : lS ⟨#[116]⟩ ⟨2, 0, s⟩ (pcs a b n none) = pcs a b n (some ⟨2, 0, s⟩) := by
 cases a <;> cases b <;> cases n <;> simp [lS, iA, isName, fH, gF, jI, pcs, pc, a0n, a0p, a0q]
def vX (o : Option TValue) : Prop := ∀ v, o = some v → ∃ x, v = ⟨1, x, ⟨#[]⟩⟩ ∧ 0 ≤ x ∧ x ≤ 999
def words : List ByteArray := [⟨#[105, 110, 107]⟩, ⟨#[115, 101, 97]⟩, ⟨#[114, 101, 100]⟩, ⟨#[98, 108, 117, 101]⟩]
def vY (o : Option TValue) : Prop := ∀ v, o = some v → ∃ s, v = ⟨2, 0, s⟩ ∧ s ∈ words
theorem tN : vX none := fun v h => by cases h
theorem tO : vY none := fun v h => by cases h
theorem a0r {x : Int} (h : 0 ≤ x ∧ x ≤ 999) : vX (some ⟨1, x, ⟨#[]⟩⟩) := fun v e => by cases e; exact ⟨x, rfl, h⟩
theorem a0s {s : ByteArray} (h : s ∈ words) : vY (some ⟨2, 0, s⟩) := fun v e => by cases e; exact ⟨s, rfl, h⟩
structure fileD (id : Int) (f : TFile) : Prop where
 id : f.fID = id
 ow : 0 ≤ f.fOwner ∧ f.fOwner ≤ 2
 lk : 0 ≤ f.fLink ∧ f.fLink ≤ 60
 at_ : ∃ a b n t, f.fAttrs = pcs a b n t ∧ vX a ∧ vX b ∧ vY n ∧ vY t
theorem a2e {s : ByteArray} (h : s ∈ words) : gT ⟨2, 0, s⟩ = true ∧ s.size ≤ 4 ∧ s ≠ ⟨#[122, 122]⟩ := by
 have := (by decide +kernel : ∀ s ∈ words, gT ⟨2, 0, s⟩ = true ∧ s.size ≤ 4 ∧ s ≠ ⟨#[122, 122]⟩)
 exact this s h
theorem a6D {x : Int} (h : 0 ≤ x ∧ x ≤ 999) : gT ⟨1, x, ⟨#[]⟩⟩ = true := by
 unfold gT
 simp [inB, h.1, h.2]
theorem a5v (x : Int) (h : 0 ≤ x ∧ x ≤ 999) : iV gV ⟨#[97]⟩ ⟨1, x, ⟨#[]⟩⟩ = true ∧ iV gV ⟨#[98]⟩ ⟨1, x, ⟨#[]⟩⟩ = true := by
 unfold iV
 rw [a6D h]
 exact ⟨rfl, rfl⟩
theorem a5w (s : ByteArray) (h : s ∈ words) : iV gV ⟨#[110]⟩ ⟨2, 0, s⟩ = true ∧ iV gV ⟨#[116]⟩ ⟨2, 0, s⟩ = true := by
 unfold iV
 rw [(a2e h).1]
 exact ⟨rfl, rfl⟩
theorem a6E {a b n t : Option TValue} (ha : vX a) (hb : vX b) (hn : vY n) (ht : vY t) : (List.range (pcs a b n t).length).all (eY gV (pcs a b n t)) = true := by
 have key : ∀ {x : Option TValue}, vX x → x = none ∨ ∃ k, x = some ⟨1, k, ⟨#[]⟩⟩ ∧ 0 ≤ k ∧ k ≤ 999 := fun {x} h => by
  cases x with
  | none => exact .inl rfl
  | some v => obtain ⟨k, rfl, h2⟩ := h v rfl; exact .inr ⟨k, rfl, h2⟩
 have key2 : ∀ {x : Option TValue}, vY x → x = none ∨ ∃ k, x = some ⟨2, 0, k⟩ ∧ k ∈ words := fun {x} h => by
  cases x with
  | none => exact .inl rfl
  | some v => obtain ⟨k, rfl, h2⟩ := h v rfl; exact .inr ⟨k, rfl, h2⟩
 rw [List.all_eq_true]
 rcases key ha with rfl | ⟨x, rfl, hx⟩ <;> rcases key hb with rfl | ⟨y, rfl, hy⟩ <;> rcases key2 hn with rfl | ⟨p, rfl, hp⟩ <;> rcases key2 ht with rfl | ⟨q, rfl, hq⟩ <;>
  (intro k hk
   rw [List.mem_range] at hk
   simp only [pcs, pc, List.nil_append, List.singleton_append, List.append_nil, List.length_cons, List.length_nil] at hk ⊢
   match k, hk with
   | 0, h0 => first | (exfalso; omega) | (simp [eY, jY, a5v, a5w, a0l, a0m, a0n, a0o, a0p, a0q, *]; done)
   | 1, h0 => first | (exfalso; omega) | (simp [eY, jY, a5v, a5w, a0l, a0m, a0n, a0o, a0p, a0q, *]; done)
   | 2, h0 => first | (exfalso; omega) | (simp [eY, jY, a5v, a5w, a0l, a0m, a0n, a0o, a0p, a0q, *]; done)
   | 3, h0 => first | (exfalso; omega) | (simp [eY, jY, a5v, a5w, a0l, a0m, a0n, a0o, a0p, a0q, *]; done))
theorem tQ {id : Int} {f : TFile} (h : fileD id f) : bM f ≤ 40 ∧ nC f.fAttrs ∧ ∀ a ∈ f.fAttrs, a.fValue.fStr ≠ ⟨#[122, 122]⟩ := by
 obtain ⟨a, b, n, t, e, h1, h2, h3, h4⟩ := h.at_
 have key : ∀ (nm : ByteArray) (x : Option TValue), nm.size = 1 → (vX x ∨ vY x) → (pc nm x).length + dB gD (pc nm x) ≤ 6 ∧ (∀ y ∈ pc nm x, a1s y ∧ y.fValue.fStr ≠ ⟨#[122, 122]⟩) := fun nm x hn hx => by
  cases x with
  | none => exact ⟨by simp [pc, dB], fun y hy => by simp [pc] at hy⟩
  | some v =>
   rcases hx with hx | hx
   ·obtain ⟨k, rfl, h1, h2⟩ := hx v rfl
    refine ⟨by simp [pc, dB, gD, kW, hn]; decide, fun y hy => ?_⟩
    simp [pc] at hy
    subst hy
    exact ⟨⟨by simp only [hn]; omega, in1, by simp only [inR]; omega, Nat.zero_le _⟩, fun q => by have := congrArg ByteArray.size q; simp at this; exact absurd this (by decide)⟩
   ·obtain ⟨s, rfl, hs⟩ := hx v rfl
    obtain ⟨-, h2, h3⟩ := a2e hs
    refine ⟨by simp [pc, dB, gD, kW, hn]; omega, fun y hy => ?_⟩
    simp [pc] at hy
    subst hy
    exact ⟨⟨by simp only [hn]; omega, in2, in0, by simp only; omega⟩, h3⟩
 have ka := key ⟨#[97]⟩ a rfl (.inl h1)
 have kb := key ⟨#[98]⟩ b rfl (.inl h2)
 have kn := key ⟨#[110]⟩ n rfl (.inr h3)
 have kt := key ⟨#[116]⟩ t rfl (.inr h4)
 have hw : ∀ (l m : List TAttr), dB gD (l ++ m) = dB gD l + dB gD m := fun l m => by
  induction l with
  | nil => simp [dB]
  | cons x l ih => simp only [List.cons_append, dB, ih]; omega
 rw [e]
 refine ⟨?_, ⟨?_, fun y hy => ?_⟩, fun y hy => ?_⟩
 ·unfold bM dC
  rw [e]
  unfold pcs
  simp only [hw, List.length_append]
  omega
 ·unfold pcs
  simp only [List.length_append]
  omega
 ·unfold pcs at hy
  simp only [List.mem_append] at hy
  rcases hy with hy | hy | hy | hy
  ·exact (ka.2 y hy).1
  ·exact (kb.2 y hy).1
  ·exact (kn.2 y hy).1
  ·exact (kt.2 y hy).1
 ·unfold pcs at hy
  simp only [List.mem_append] at hy
  rcases hy with hy | hy | hy | hy
  ·exact (ka.2 y hy).2
  ·exact (kb.2 y hy).2
  ·exact (kn.2 y hy).2
  ·exact (kt.2 y hy).2
structure fileK (fid : Int) (k : Nat) (f : TFile) : Prop where
 id : f.fID = fid
 ow : 0 ≤ f.fOwner ∧ f.fOwner ≤ 2
 lk : 0 ≤ f.fLink ∧ f.fLink ≤ 60
 at_ : ∃ a b n t, f.fAttrs = pcs a b n t ∧ vX a ∧ vX b ∧ vY n ∧ vY t ∧ (k ≤ 0 → a = none) ∧ (k ≤ 1 → b = none) ∧ (k ≤ 2 → n = none) ∧ (k ≤ 3 → t = none)
theorem jH {fid : Int} {k : Nat} {f : TFile} (h : fileK fid k f) : f.fAttrs.length ≤ 4 := by
 obtain ⟨a, b, n, t, e, _⟩ := h.at_
 rw [e]
 cases a <;> cases b <;> cases n <;> cases t <;> simp [pcs, pc]
theorem qA {fid : Int} {k : Nat} {f : TFile} (h : fileK fid k f) : fileK fid (k + 1) f := by
 obtain ⟨a, b, n, t, e, h1, h2, h3, h4, h5, h6, h7, h8⟩ := h.at_
 exact ⟨h.id, h.ow, h.lk, a, b, n, t, e, h1, h2, h3, h4, fun q => h5 (by omega), fun q => h6 (by omega), fun q => h7 (by omega), fun q => h8 (by omega)⟩
theorem a5x {fid : Int} {f : TFile} (h : fileK fid 0 f) {x : Int} (hx : 0 ≤ x ∧ x ≤ 999) : fileK fid 1 (kY f ⟨#[97]⟩ ⟨1, x, ⟨#[]⟩⟩) := by
 obtain ⟨a, b, n, t, e, h1, h2, h3, h4, h5, h6, h7, h8⟩ := h.at_
 obtain rfl := h5 (by omega); obtain rfl := h6 (by omega); obtain rfl := h7 (by omega); obtain rfl := h8 (by omega)
 exact ⟨h.id, h.ow, h.lk, _, _, _, _, by simp only [kY, e]; exact a7M x, a0r hx, h2, h3, h4, fun q => by omega, fun _ => rfl, fun _ => rfl, fun _ => rfl⟩
theorem a5y {fid : Int} {f : TFile} (h : fileK fid 1 f) {x : Int} (hx : 0 ≤ x ∧ x ≤ 999) : fileK fid 2 (kY f ⟨#[98]⟩ ⟨1, x, ⟨#[]⟩⟩) := by
 obtain ⟨a, b, n, t, e, h1, h2, h3, h4, h5, h6, h7, h8⟩ := h.at_
 obtain rfl := h6 (by omega); obtain rfl := h7 (by omega); obtain rfl := h8 (by omega)
 exact ⟨h.id, h.ow, h.lk, _, _, _, _, by simp only [kY, e]; exact a7N x a, h1, a0r hx, h3, h4, fun q => by omega, fun q => by omega, fun _ => rfl, fun _ => rfl⟩
theorem a5z {fid : Int} {f : TFile} (h : fileK fid 2 f) {x : ByteArray} (hx : x ∈ words) : fileK fid 3 (kY f ⟨#[110]⟩ ⟨2, 0, x⟩) := by
 obtain ⟨a, b, n, t, e, h1, h2, h3, h4, h5, h6, h7, h8⟩ := h.at_
 obtain rfl := h7 (by omega); obtain rfl := h8 (by omega)
 exact ⟨h.id, h.ow, h.lk, _, _, _, _, by simp only [kY, e]; exact a7O x a b, h1, h2, a0s hx, h4, fun q => by omega, fun q => by omega, fun q => by omega, fun _ => rfl⟩
theorem a5A {fid : Int} {f : TFile} (h : fileK fid 3 f) {x : ByteArray} (hx : x ∈ words) : fileK fid 4 (kY f ⟨#[116]⟩ ⟨2, 0, x⟩) := by
 obtain ⟨a, b, n, t, e, h1, h2, h3, h4, h5, h6, h7, h8⟩ := h.at_
 obtain rfl := h8 (by omega)
 exact ⟨h.id, h.ow, h.lk, _, _, _, _, by simp only [kY, e]; exact a7P x a b n, h1, h2, h3, a0s hx, fun q => by omega, fun q => by omega, fun q => by omega, fun q => by omega⟩
theorem a5B {fid : Int} {f : TFile} (h : fileK fid 4 f) : fileD fid f := by
 obtain ⟨a, b, n, t, e, h1, h2, h3, h4, _⟩ := h.at_
 exact ⟨h.id, h.ow, h.lk, a, b, n, t, e, h1, h2, h3, h4⟩
@[go_sem] def wd1 : List ByteArray := [⟨#[105, 110, 107]⟩, ⟨#[115, 101, 97]⟩]
@[go_sem] def wd2 : List ByteArray := [⟨#[114, 101, 100]⟩, ⟨#[98, 108, 117, 101]⟩]
theorem a7Q : ∀ s ∈ wd1, s ∈ words := by
 intro s hs; simp [wd1] at hs; rcases hs with rfl | rfl <;> simp [words]
theorem a7R : ∀ s ∈ wd2, s ∈ words := by
 intro s hs; simp [wd2] at hs; rcases hs with rfl | rfl <;> simp [words]
theorem kX {l : List Int} (hl : gW l) (fid : Int) : Drw l 65 [oi fid] (fun f : TFile => fileD fid f) (fun f => sG f) := by
 intro i h hi hh; refine rJ Tryd.func65 rfl Tryd.call65 rfl (fun C b => ?_); simp only [go_sem, Tryd.ntmps65]
 refine aF ?_
 first | (refine bB (aL hl 3 (by decide) (by decide) i h hi hh) ⟨rfl, rfl⟩ ?_ rfl ?_; (focus first | rfl | (simp only [go_sem]; done))) | (refine hZ (aL hl 3 (by decide) (by decide) i h hi hh) ⟨rfl, rfl⟩ ?_ rfl ?_; (focus first | rfl | (simp only [go_sem]; done)))
 clear hi hh; rintro ⟨ow, i, h⟩ ⟨how, hi, hh⟩; simp only at how hi hh; simp only [go_sem]
 refine aF ?_
 first | (refine bB (bQ hl 2 (by decide) (by decide) i h hi hh) ⟨rfl, rfl⟩ ?_ rfl ?_; (focus first | rfl | (simp only [go_sem]; done))) | (refine hZ (bQ hl 2 (by decide) (by decide) i h hi hh) ⟨rfl, rfl⟩ ?_ rfl ?_; (focus first | rfl | (simp only [go_sem]; done)))
 clear hi hh; rintro ⟨sh, i, h⟩ ⟨q0, hi, hh⟩; simp only at q0 hi hh; simp only [go_sem]
 refine aF ?_
 first | (refine bB (bQ hl 2 (by decide) (by decide) i h hi hh) ⟨rfl, rfl⟩ ?_ rfl ?_; (focus first | rfl | (simp only [go_sem]; done))) | (refine hZ (bQ hl 2 (by decide) (by decide) i h hi hh) ⟨rfl, rfl⟩ ?_ rfl ?_; (focus first | rfl | (simp only [go_sem]; done)))
 clear hi hh; rintro ⟨c1, i, h⟩ ⟨q1, hi, hh⟩; simp only at q1 hi hh; simp only [go_sem]
 repeat' (with_reducible first | refine nX ?_ | (refine mX ?_; try simp only [go_sem]) | refine kD ?_ | refine aO ?_ | fail)
 refine a1O 2 4 100 4 rfl rfl ?_
 simp only [go_sem]
 refine qB (α := TFile × Nat × Int) (fun _ => []) (fun x => [(0, .pin b 89 [.sl (l.map lQ), iv x.2.1, iv x.2.2]), (2, .box 56 [.d (iv x.1.fID), .d (iv x.1.fOwner), .d (bv x.1.fShared), .d (iv x.1.fLink), .s 3]), (3, .row 100 4 (x.1.fAttrs.map cZ) true)]) (fun x => fileK fid 0 x.1 ∧ (x.2.1 ≤ l.length ∧ inR .i64 x.2.2)) ?_ ?_
 ·cases c1
  ·refine aF ?_
   exact iE (⟨fid, ow, sh, 0, []⟩, i, h) ⟨⟨rfl, by simp only; omega, by simp, none, none, none, none, rfl, tN, tN, tO, tO, fun _ => rfl, fun _ => rfl, fun _ => rfl, fun _ => rfl⟩, ⟨hi, hh⟩⟩ (by simp only [go_sem]; simp) (by simp only [go_sem])
  ·refine aF ?_
   first | (refine bB (aL hl 7 (by decide) (by decide) i h hi hh) ⟨rfl, rfl⟩ ?_ rfl ?_; (focus first | rfl | (simp only [go_sem]; done))) | (refine hZ (aL hl 7 (by decide) (by decide) i h hi hh) ⟨rfl, rfl⟩ ?_ rfl ?_; (focus first | rfl | (simp only [go_sem]; done)))
   clear hi hh; rintro ⟨lk, i, h⟩ ⟨hlk, hi, hh⟩; simp only at hlk hi hh; simp only [go_sem]
   refine aF ?_
   exact iE (⟨fid, ow, sh, lk, []⟩, i, h) ⟨⟨rfl, by simp only; omega, by simp only; omega, none, none, none, none, rfl, tN, tN, tO, tO, fun _ => rfl, fun _ => rfl, fun _ => rfl, fun _ => rfl⟩, ⟨hi, hh⟩⟩ (by simp only [go_sem]; simp) (by simp only [go_sem])
 ·rintro ⟨f, i, h⟩ ⟨hf, hi, hh⟩
  simp only at hf hi hh
  simp only [go_sem]
  refine aF ?_
  first | (refine bB (bQ hl 4 (by decide) (by decide) i h hi hh) ⟨rfl, rfl⟩ ?_ rfl ?_; (focus first | rfl | (simp only [go_sem]; done))) | (refine hZ (bQ hl 4 (by decide) (by decide) i h hi hh) ⟨rfl, rfl⟩ ?_ rfl ?_; (focus first | rfl | (simp only [go_sem]; done)))
  clear hi hh; rintro ⟨c1, i, h⟩ ⟨q1, hi, hh⟩; simp only at q1 hi hh; simp only [go_sem]
  repeat' (with_reducible first | refine nX ?_ | (refine mX ?_; try simp only [go_sem]) | refine kD ?_ | refine aO ?_ | fail)
  refine qB (α := TFile × Nat × Int) (fun _ => []) (fun x => [(0, .pin b 89 [.sl (l.map lQ), iv x.2.1, iv x.2.2]), (2, .box 56 [.d (iv x.1.fID), .d (iv x.1.fOwner), .d (bv x.1.fShared), .d (iv x.1.fLink), .s 3]), (3, .row 100 4 (x.1.fAttrs.map cZ) true)]) (fun x => fileK fid 1 x.1 ∧ (x.2.1 ≤ l.length ∧ inR .i64 x.2.2)) ?_ ?_
  ·cases c1
   ·have hw := jH hf
    have hf0 : f.fAttrs.length ≤ 4200000 := by omega
    have qH := trivial; repeat' (with_reducible first | refine nY ?_ | (refine mX ?_; try simp only [go_sem]) | refine kD ?_ | (apply rF [2,3,4,5] [] [0,1] [0,1] ((.c 2 [] [0] (.c 3 [] [0] (.c 4 [] [] (.c 5 [] [] .n .n) .n) .n) .n)) (by simp only [go_sem]; rfl) (by simp only [go_sem]; rfl) (by simp only [go_sem]; rfl) (by decide +kernel); (focus simp only [go_sem]; done)) | exact bN | refine bE (uX ?_) ?_ | refine bF (aX ?_) ?_ | refine bG (aX ?_) ?_ | exact dE | exact oH | (refine uA ?_; simp only [go_sem]; (repeat' first | omega | refine And.intro ?_ ?_); done) | refine rD ?_ | refine aO ?_ | fail)
    first | (refine bB (aL hl 4 (by decide) (by decide) i h hi hh) ⟨rfl, rfl⟩ ?_ rfl ?_; (focus first | rfl | (simp only [go_sem]; done))) | (refine hZ (aL hl 4 (by decide) (by decide) i h hi hh) ⟨rfl, rfl⟩ ?_ rfl ?_; (focus first | rfl | (simp only [go_sem]; done)))
    clear hi hh; rintro ⟨x, i, h⟩ ⟨hx, hi, hh⟩; simp only at hx hi hh; simp only [go_sem]
    have qH := trivial; repeat' (with_reducible first | refine nY ?_ | (refine mX ?_; try simp only [go_sem]) | refine kD ?_ | exact bN | refine bE (uX ?_) ?_ | refine bF (aX ?_) ?_ | refine bG (aX ?_) ?_ | (refine uA ?_; simp only [go_sem]; (repeat' first | omega | refine And.intro ?_ ?_); done) | refine rD ?_ | refine cP (qC x) ?_ | refine hR (aT f ⟨#[97]⟩ ⟨1, x, ⟨#[]⟩⟩ hf0) ?_ | refine vR (aT f ⟨#[97]⟩ ⟨1, x, ⟨#[]⟩⟩ hf0) ?_ | refine vD (aT f ⟨#[97]⟩ ⟨1, x, ⟨#[]⟩⟩ hf0) ?_ | refine aO ?_ | fail)
    exact tT [(3, 4)] (kY f ⟨#[97]⟩ ⟨1, x, ⟨#[]⟩⟩, i, h) ⟨a5x hf (by omega), ⟨hi, hh⟩⟩ (by simp only [go_sem]; rfl) (by simp only [go_sem]; simp) (by simp only [go_sem])
   ·have hw := jH hf
    refine aF ?_
    exact iE (f, i, h) ⟨qA hf, ⟨hi, hh⟩⟩ (by simp only [go_sem]; simp) (by simp only [go_sem])
  ·rintro ⟨f, i, h⟩ ⟨hf, hi, hh⟩
   simp only at hf hi hh
   simp only [go_sem]
   refine aF ?_
   first | (refine bB (bQ hl 2 (by decide) (by decide) i h hi hh) ⟨rfl, rfl⟩ ?_ rfl ?_; (focus first | rfl | (simp only [go_sem]; done))) | (refine hZ (bQ hl 2 (by decide) (by decide) i h hi hh) ⟨rfl, rfl⟩ ?_ rfl ?_; (focus first | rfl | (simp only [go_sem]; done)))
   clear hi hh; rintro ⟨c1, i, h⟩ ⟨q1, hi, hh⟩; simp only at q1 hi hh; simp only [go_sem]
   repeat' (with_reducible first | refine nX ?_ | (refine mX ?_; try simp only [go_sem]) | refine kD ?_ | refine aO ?_ | fail)
   refine qB (α := TFile × Nat × Int) (fun _ => []) (fun x => [(0, .pin b 89 [.sl (l.map lQ), iv x.2.1, iv x.2.2]), (2, .box 56 [.d (iv x.1.fID), .d (iv x.1.fOwner), .d (bv x.1.fShared), .d (iv x.1.fLink), .s 3]), (3, .row 100 4 (x.1.fAttrs.map cZ) true)]) (fun x => fileK fid 2 x.1 ∧ (x.2.1 ≤ l.length ∧ inR .i64 x.2.2)) ?_ ?_
   ·cases c1
    ·have hw := jH hf
     refine aF ?_
     exact iE (f, i, h) ⟨qA hf, ⟨hi, hh⟩⟩ (by simp only [go_sem]; simp) (by simp only [go_sem])
    ·have hw := jH hf
     have hf0 : f.fAttrs.length ≤ 4200000 := by omega
     have qH := trivial; repeat' (with_reducible first | refine nY ?_ | (refine mX ?_; try simp only [go_sem]) | refine kD ?_ | (apply rF [2,3,4,5] [] [0,1] [0,1] ((.c 2 [] [0] (.c 3 [] [0] (.c 4 [] [] (.c 5 [] [] .n .n) .n) .n) .n)) (by simp only [go_sem]; rfl) (by simp only [go_sem]; rfl) (by simp only [go_sem]; rfl) (by decide +kernel); (focus simp only [go_sem]; done)) | exact bN | refine bE (uX ?_) ?_ | refine bF (aX ?_) ?_ | refine bG (aX ?_) ?_ | exact dE | exact oH | (refine uA ?_; simp only [go_sem]; (repeat' first | omega | refine And.intro ?_ ?_); done) | refine rD ?_ | refine aO ?_ | fail)
     first | (refine bB (aL hl 4 (by decide) (by decide) i h hi hh) ⟨rfl, rfl⟩ ?_ rfl ?_; (focus first | rfl | (simp only [go_sem]; done))) | (refine hZ (aL hl 4 (by decide) (by decide) i h hi hh) ⟨rfl, rfl⟩ ?_ rfl ?_; (focus first | rfl | (simp only [go_sem]; done)))
     clear hi hh; rintro ⟨x, i, h⟩ ⟨hx, hi, hh⟩; simp only at hx hi hh; simp only [go_sem]
     have qH := trivial; repeat' (with_reducible first | refine nY ?_ | (refine mX ?_; try simp only [go_sem]) | refine kD ?_ | exact bN | refine bE (uX ?_) ?_ | refine bF (aX ?_) ?_ | refine bG (aX ?_) ?_ | (refine uA ?_; simp only [go_sem]; (repeat' first | omega | refine And.intro ?_ ?_); done) | refine rD ?_ | refine cP (qC x) ?_ | refine hR (aT f ⟨#[98]⟩ ⟨1, x, ⟨#[]⟩⟩ hf0) ?_ | refine vR (aT f ⟨#[98]⟩ ⟨1, x, ⟨#[]⟩⟩ hf0) ?_ | refine vD (aT f ⟨#[98]⟩ ⟨1, x, ⟨#[]⟩⟩ hf0) ?_ | refine aO ?_ | fail)
     exact tT [(3, 4)] (kY f ⟨#[98]⟩ ⟨1, x, ⟨#[]⟩⟩, i, h) ⟨a5y hf (by omega), ⟨hi, hh⟩⟩ (by simp only [go_sem]; rfl) (by simp only [go_sem]; simp) (by simp only [go_sem])
   ·rintro ⟨f, i, h⟩ ⟨hf, hi, hh⟩
    simp only at hf hi hh
    simp only [go_sem]
    refine aF ?_
    first | (refine bB (bQ hl 3 (by decide) (by decide) i h hi hh) ⟨rfl, rfl⟩ ?_ rfl ?_; (focus first | rfl | (simp only [go_sem]; done))) | (refine hZ (bQ hl 3 (by decide) (by decide) i h hi hh) ⟨rfl, rfl⟩ ?_ rfl ?_; (focus first | rfl | (simp only [go_sem]; done)))
    clear hi hh; rintro ⟨c1, i, h⟩ ⟨q1, hi, hh⟩; simp only at q1 hi hh; simp only [go_sem]
    repeat' (with_reducible first | refine nX ?_ | (refine mX ?_; try simp only [go_sem]) | refine kD ?_ | refine aO ?_ | fail)
    refine qB (α := TFile × Nat × Int) (fun _ => []) (fun x => [(0, .pin b 89 [.sl (l.map lQ), iv x.2.1, iv x.2.2]), (2, .box 56 [.d (iv x.1.fID), .d (iv x.1.fOwner), .d (bv x.1.fShared), .d (iv x.1.fLink), .s 3]), (3, .row 100 4 (x.1.fAttrs.map cZ) true)]) (fun x => fileK fid 3 x.1 ∧ (x.2.1 ≤ l.length ∧ inR .i64 x.2.2)) ?_ ?_
    ·cases c1
     ·have hw := jH hf
      have hf0 : f.fAttrs.length ≤ 4200000 := by omega
      have qH := trivial; repeat' (with_reducible first | refine nY ?_ | (refine mX ?_; try simp only [go_sem]) | refine kD ?_ | (apply rF [2,3,4,5,6] [] [0,1] [0,1] ((.c 2 [] [0,1] (.c 3 [] [0] (.c 4 [] [0] (.c 5 [] [] (.c 6 [] [] .n .n) .n) .n) .n) .n)) (by simp only [go_sem]; rfl) (by simp only [go_sem]; rfl) (by simp only [go_sem]; rfl) (by decide +kernel); (focus simp only [go_sem]; done)) | exact bN | refine bE (uX ?_) ?_ | refine bF (aX ?_) ?_ | refine bG (aX ?_) ?_ | exact dE | exact oH | (refine uA ?_; simp only [go_sem]; (repeat' first | omega | refine And.intro ?_ ?_); done) | refine rD ?_ | refine aO ?_ | fail)
      first | (refine bB (cK hl wd1 (by decide) (by decide) i h hi hh) ⟨rfl, rfl⟩ ?_ rfl ?_; (focus first | rfl | (simp only [go_sem]; done))) | (refine hZ (cK hl wd1 (by decide) (by decide) i h hi hh) ⟨rfl, rfl⟩ ?_ rfl ?_; (focus first | rfl | (simp only [go_sem]; done)))
      clear hi hh; rintro ⟨x, i, h⟩ ⟨hx, hi, hh⟩; simp only at hx hi hh; simp only [go_sem]
      have qH := trivial; repeat' (with_reducible first | refine nY ?_ | (refine mX ?_; try simp only [go_sem]) | refine kD ?_ | exact bN | refine bE (uX ?_) ?_ | refine bF (aX ?_) ?_ | refine bG (aX ?_) ?_ | (refine uA ?_; simp only [go_sem]; (repeat' first | omega | refine And.intro ?_ ?_); done) | refine rD ?_ | refine cP (mJ x) ?_ | refine hR (aT f ⟨#[110]⟩ ⟨2, 0, x⟩ hf0) ?_ | refine vR (aT f ⟨#[110]⟩ ⟨2, 0, x⟩ hf0) ?_ | refine vD (aT f ⟨#[110]⟩ ⟨2, 0, x⟩ hf0) ?_ | refine aO ?_ | fail)
      exact tT [(3, 5)] (kY f ⟨#[110]⟩ ⟨2, 0, x⟩, i, h) ⟨a5z hf (a7Q x hx), ⟨hi, hh⟩⟩ (by simp only [go_sem]; rfl) (by simp only [go_sem]; simp) (by simp only [go_sem])
     ·have hw := jH hf
      refine aF ?_
      exact iE (f, i, h) ⟨qA hf, ⟨hi, hh⟩⟩ (by simp only [go_sem]; simp) (by simp only [go_sem])
    ·rintro ⟨f, i, h⟩ ⟨hf, hi, hh⟩
     simp only at hf hi hh
     simp only [go_sem]
     refine aF ?_
     first | (refine bB (bQ hl 2 (by decide) (by decide) i h hi hh) ⟨rfl, rfl⟩ ?_ rfl ?_; (focus first | rfl | (simp only [go_sem]; done))) | (refine hZ (bQ hl 2 (by decide) (by decide) i h hi hh) ⟨rfl, rfl⟩ ?_ rfl ?_; (focus first | rfl | (simp only [go_sem]; done)))
     clear hi hh; rintro ⟨c1, i, h⟩ ⟨q1, hi, hh⟩; simp only at q1 hi hh; simp only [go_sem]
     repeat' (with_reducible first | refine nX ?_ | (refine mX ?_; try simp only [go_sem]) | refine kD ?_ | refine aO ?_ | fail)
     refine qB (α := TFile × Nat × Int) (fun _ => []) (fun x => [(0, .pin b 89 [.sl (l.map lQ), iv x.2.1, iv x.2.2]), (2, .box 56 [.d (iv x.1.fID), .d (iv x.1.fOwner), .d (bv x.1.fShared), .d (iv x.1.fLink), .s 3]), (3, .row 100 4 (x.1.fAttrs.map cZ) true)]) (fun x => fileK fid 4 x.1 ∧ (x.2.1 ≤ l.length ∧ inR .i64 x.2.2)) ?_ ?_
     ·cases c1
      ·have hw := jH hf
       refine aF ?_
       exact iE (f, i, h) ⟨qA hf, ⟨hi, hh⟩⟩ (by simp only [go_sem]; simp) (by simp only [go_sem])
      ·have hw := jH hf
       have hf0 : f.fAttrs.length ≤ 4200000 := by omega
       have qH := trivial; repeat' (with_reducible first | refine nY ?_ | (refine mX ?_; try simp only [go_sem]) | refine kD ?_ | (apply rF [2,3,4,5,6] [] [0,1] [0,1] ((.c 2 [] [0,1] (.c 3 [] [0] (.c 4 [] [0] (.c 5 [] [] (.c 6 [] [] .n .n) .n) .n) .n) .n)) (by simp only [go_sem]; rfl) (by simp only [go_sem]; rfl) (by simp only [go_sem]; rfl) (by decide +kernel); (focus simp only [go_sem]; done)) | exact bN | refine bE (uX ?_) ?_ | refine bF (aX ?_) ?_ | refine bG (aX ?_) ?_ | exact dE | exact oH | (refine uA ?_; simp only [go_sem]; (repeat' first | omega | refine And.intro ?_ ?_); done) | refine rD ?_ | refine aO ?_ | fail)
       first | (refine bB (cK hl wd2 (by decide) (by decide) i h hi hh) ⟨rfl, rfl⟩ ?_ rfl ?_; (focus first | rfl | (simp only [go_sem]; done))) | (refine hZ (cK hl wd2 (by decide) (by decide) i h hi hh) ⟨rfl, rfl⟩ ?_ rfl ?_; (focus first | rfl | (simp only [go_sem]; done)))
       clear hi hh; rintro ⟨x, i, h⟩ ⟨hx, hi, hh⟩; simp only at hx hi hh; simp only [go_sem]
       have qH := trivial; repeat' (with_reducible first | refine nY ?_ | (refine mX ?_; try simp only [go_sem]) | refine kD ?_ | exact bN | refine bE (uX ?_) ?_ | refine bF (aX ?_) ?_ | refine bG (aX ?_) ?_ | (refine uA ?_; simp only [go_sem]; (repeat' first | omega | refine And.intro ?_ ?_); done) | refine rD ?_ | refine cP (mJ x) ?_ | refine hR (aT f ⟨#[116]⟩ ⟨2, 0, x⟩ hf0) ?_ | refine vR (aT f ⟨#[116]⟩ ⟨2, 0, x⟩ hf0) ?_ | refine vD (aT f ⟨#[116]⟩ ⟨2, 0, x⟩ hf0) ?_ | refine aO ?_ | fail)
       exact tT [(3, 5)] (kY f ⟨#[116]⟩ ⟨2, 0, x⟩, i, h) ⟨a5A hf (a7R x hx), ⟨hi, hh⟩⟩ (by simp only [go_sem]; rfl) (by simp only [go_sem]; simp) (by simp only [go_sem])
     ·rintro ⟨f, i, h⟩ ⟨hf, hi, hh⟩
      simp only at hf hi hh
      simp only [go_sem]
      refine aF ?_
      exact aN (f, i, h) ⟨⟨_, rfl, by simp only [go_sem]⟩, trivial⟩ ⟨a5B hf, ⟨hi, hh⟩⟩ (by simp only [go_sem])
end Go.Proofs.YtlmpmpddakhfnaaDoor
end
section
set_option maxRecDepth 100000
namespace Go.Proofs.YtlmpmpddakhfnaaDoor
open Go Go.Sx Go.RowKit Go.Proofs
end Go.Proofs.YtlmpmpddakhfnaaDoor
end
section
set_option maxRecDepth 100000
set_option maxHeartbeats 4000000
namespace Go.Proofs.YtlmpmpddakhfnaaDoor
open Go Go.Sx Go.RowKit Go.Proofs
theorem a3g (f : TFile) (h : f.fAttrs.length ≤ 4300000) : FnC Tryd.prog 68 [lD f] (sG f) := by
 refine ent Tryd.func68 rfl Tryd.call68 rfl (fun C => ?_); simp only [go_sem, st0, Tryd.ntmps68]
 refine sQ (zB f.fAttrs h) ?_
 exact aA ⟨⟨_, rfl, by simp only [go_sem]⟩, trivial⟩
theorem kC (f : TFile) (h : f.fAttrs.length ≤ 4300000) : FnC Tryd.prog 74 [lD f] (sG f) := by
 refine ent Tryd.func74 rfl Tryd.call74 rfl (fun C => ?_); simp only [go_sem, st0, Tryd.ntmps74]
 refine aF ?_
 exact aA ⟨⟨_, rfl, by simp only [go_sem]⟩, trivial⟩
theorem mO (s : TStore) (h : aV s ≤ 4300000) : FnC Tryd.prog 85 [cB s] (a1u s) := by
 have h1 : s.fSchema.length ≤ 4300000 := by unfold aV bO at h; omega
 have h2 : s.fFiles.length + dB bM s.fFiles ≤ 4300000 := by unfold aV gZ at h; omega
 refine ent Tryd.func85 rfl Tryd.call85 rfl (fun C => ?_); simp only [go_sem, st0, Tryd.ntmps85]
 have qH := trivial; repeat' (with_reducible first | refine nY ?_ | (refine mX ?_; try simp only [go_sem]) | refine kD ?_ | (apply rE [0,3,7,8] [] [1,2,4,5] [1,2,4,5] ((.c 0 [] [1,2,4,5] (.c 3 [6] [4,5,6] (.c 7 [] [4,5,6] (.c 8 [] [] .n .n) .n) (.c 7 [] [1,2,4,5] (.c 3 [6] [4,5,6] (.c 8 [] [] .n .n) .n) .n)) (.c 7 [] [1,2,4,5] (.c 0 [] [1,2,4,5] (.c 3 [6] [4,5,6] (.c 8 [] [] .n .n) .n) .n) .n))) (by simp only [go_sem]; rfl) (by simp only [go_sem]; rfl) (by simp only [go_sem]; rfl) (by decide +kernel); (focus simp only [go_sem]; done)) | exact bN | refine bE (uX ?_) ?_ | refine bF (aX ?_) ?_ | refine bG (aX ?_) ?_ | exact dE | (refine yZ [(2, 3)] (by simp only [go_sem]; rfl) ?_; exact rfl) | exact oH | (refine uA ?_; simp only [go_sem]; (repeat' first | omega | refine And.intro ?_ ?_); done) | refine rD ?_ | refine aO ?_ | fail)
 refine a1O 3 1 56 5 rfl rfl ?_
 simp only [go_sem]
 refine dG (α := Nat) (fun k => [(4, oi k)]) (fun k => [(4, .row 56 5 ((s.fFiles.take k).map bZ) true)]) (fun k => k ≤ s.fFiles.length) (fun k => s.fFiles.length - k) 0 (fun _ => ?_) ?_ ?_ (fun k hk => ?_)
 ·simp only [go_sem]
 ·simp only [go_sem]; simp
 ·simp
 ·simp only [go_sem]
  refine aF ?_
  refine cnd rfl (fun h1 => ?_) (fun h1 => ?_)
  ·simp only [decide_eq_true_eq, Int.ofNat_lt] at h1
   have hw := gU bM s.fFiles h1
   have hx : s.fFiles[k].fAttrs.length ≤ 4300000 := by
    have e : s.fFiles[k].fAttrs.length ≤ bM s.fFiles[k] := by unfold bM dC; omega
    omega
   have ht := List.take_succ_eq_append_getElem h1
   have hn : (s.fFiles.take k).length = k := by rw [List.length_take]; omega
   have qH := aI @h1 @hn; repeat' (with_reducible first | refine nY ?_ | (refine mX ?_; try simp only [go_sem, qH]) | refine kD ?_ | (apply rE [7,8,9,11] [] [0,1,2,3,4,5,6] [0,1,2,3,4,5,6] ((.c 7 [] [0,1] (.c 8 [] [0,1] (.c 9 [10] [10] (.c 11 [] [] .n .n) .n) .n) .n)) (by simp only [go_sem]; rfl) (by simp only [go_sem]; rfl) (by simp only [go_sem]; rfl) (by decide +kernel); (focus simp only [go_sem]; done)) | exact bN | refine bE (uX ?_) ?_ | refine bF (aX ?_) ?_ | refine bG (aX ?_) ?_ | exact dE | exact oH | exact uB | refine rD ?_ | refine cP (kC s.fFiles[k] hx) ?_ | refine aO ?_ | fail)
   refine aU (k + 1) ?_ ?_ ?_
   ·simp only [go_sem, ht, List.map_append]; simp [bZ]
   ·omega
   ·omega
  ·simp only [decide_eq_false_iff_not] at h1
   have e : k = s.fFiles.length := by omega
   subst e
   refine aF ?_
   exact aA ⟨⟨_, rfl, by simp only [go_sem, List.take_length]⟩, trivial⟩
theorem wC (s : TStore) (f : TFile) (hs : aV s ≤ 4300000) (hf : bM f ≤ 4300000) : FnC Tryd.prog 64 [cB s, lD f] (.t [(true, (a1u (creS s f)).cells), (false, [.d (iv (a3f s f))]), (false, [.d (bv (gY s f))])]) := by
 have h1 : bO s.fSchema ≤ 4300000 := by unfold aV at hs; omega
 have h2 : s.fFiles.length ≤ 4300000 := by unfold aV gZ at hs; omega
 have h3 : f.fAttrs.length ≤ 4300000 := by unfold bM dC at hf; omega
 have hm : (mkF s f) = ⟨s.fNextID, f.fOwner, f.fShared, f.fLink, f.fAttrs⟩ := rfl
 refine ent Tryd.func64 rfl Tryd.call64 rfl (fun C => ?_); simp only [go_sem, st0, Tryd.ntmps64]
 cases hv : bR s
 ·have e : gY s f = false := by simp [gY, hv]
  have qH := @hv; repeat' (with_reducible first | refine nY ?_ | (refine mX ?_; try simp only [go_sem, qH]) | refine kD ?_ | refine rD ?_ | refine cP (mO s hs) ?_ | refine cP (kC f h3) ?_ | refine vR (dA s hs) ?_ | refine vD (dA s hs) ?_ | refine aO ?_ | fail)
  exact aA ⟨⟨_, rfl, by simp only [go_sem, creS, a3f, e]; try simp⟩, by simp [dP]⟩
 by_cases hl : s.fFiles.length < 12
 case neg =>
  have e : gY s f = false := by simp [gY, hl]
  have hz : (12 : Int) ≤ (s.fFiles.length : Int) := by omega
  have qH := aI @hv (aI @hz @decide_true); repeat' (with_reducible first | refine nY ?_ | (refine mX ?_; try simp only [go_sem, qH]) | refine kD ?_ | refine rD ?_ | refine cP (mO s hs) ?_ | refine cP (kC f h3) ?_ | refine vR (dA s hs) ?_ | refine vD (dA s hs) ?_ | refine aO ?_ | fail)
  exact aA ⟨⟨_, rfl, by simp only [go_sem, creS, a3f, e]; try simp⟩, by simp [dP]⟩
 have hz : ¬ (12 : Int) ≤ (s.fFiles.length : Int) := by omega
 cases ho : dZ s.fSchema (mkF s f)
 ·have e : gY s f = false := by simp [gY, ho]
  have hk := dS s.fSchema (mkF s f) h1 hf
  rw [ho, hm] at hk
  have qH := aI @hv (aI @hz @decide_false); repeat' (with_reducible first | refine nY ?_ | (refine mX ?_; try simp only [go_sem, qH]) | refine kD ?_ | refine rD ?_ | refine cP (mO s hs) ?_ | refine cP (kC f h3) ?_ | refine vR (dA s hs) ?_ | refine vD (dA s hs) ?_ | refine vR hk ?_ | refine vD hk ?_ | refine aO ?_ | fail)
  exact aA ⟨⟨_, rfl, by simp only [go_sem, creS, a3f, e]; try simp⟩, by simp [dP]⟩
 ·have e : gY s f = true := by simp [gY, hv, hl, ho]
  have hid := xD ho
  have hid2 : 1 ≤ s.fNextID ∧ s.fNextID ≤ 60 := hid
  have hk := dS s.fSchema (mkF s f) h1 hf
  rw [ho, hm] at hk
  have qH := aI @hv (aI @hz @decide_false); repeat' (with_reducible first | refine nY ?_ | (refine mX ?_; try simp only [go_sem, qH]) | refine kD ?_ | (apply rE [3] [] [0,1,2] [0,1,2] ((.c 3 [4,5] [1,2,4,5] .n .n)) (by simp only [go_sem]; rfl) (by simp only [go_sem]; rfl) (by simp only [go_sem]; rfl) (by decide +kernel); (focus simp only [go_sem]; done)) | exact bN | refine bE (uX ?_) ?_ | refine bF (aX ?_) ?_ | refine bG (aX ?_) ?_ | exact dE | exact oH | exact uB | refine rD ?_ | refine cP (mO s hs) ?_ | refine cP (kC f h3) ?_ | refine vR (dA s hs) ?_ | refine vG (dA s hs) ?_ | refine vR hk ?_ | refine vG hk ?_ | refine aO ?_ | fail)
  exact aA ⟨⟨_, rfl, by simp only [go_sem, creS, a3f, e, if_true, List.map_append, mkF]; try simp [bZ]⟩, by simp [dP]⟩
end Go.Proofs.YtlmpmpddakhfnaaDoor
end
section
namespace Go.Proofs.YtlmpmpddakhfnaaDoor
open Go Go.Sx Go.RowKit Go.Proofs
def ixF (id : Int) (l : List TFile) : Int := eF (fun f => decide (f.fID = id)) l 0
theorem ixF_cases (id : Int) (l : List TFile) : (ixF id l = -1) ∨ ∃ p : Nat, ixF id l = p ∧ ∃ h : p < l.length, l[p].fID = id := by
 rcases idxP_spec (fun f : TFile => decide (f.fID = id)) l 0 with h | ⟨k, e1, e2, e5, e6⟩
 ·exact .inl h.1
 ·exact .inr ⟨k, by unfold ixF; rw [e1]; simp, e2, by simpa using e5⟩
def zF : TFile := ⟨0, 0, false, 0, []⟩
def findF (id : Int) (l : List TFile) : TFile := if 0 ≤ ixF id l then l.getD (ixF id l).toNat zF else zF
theorem qN {id : Int} {l : List TFile} (h : ixF id l = -1) : findF id l = zF := by unfold findF; rw [h]; rfl
theorem nG {id : Int} {l : List TFile} {p : Nat} (h : ixF id l = p) (hp : p < l.length) : findF id l = l[p] := by unfold findF; rw [h, if_pos (by omega)]; simp [hp]
theorem a2p (id : Int) (l : List TFile) : bM (findF id l) ≤ gZ l := by
 rcases ixF_cases id l with h | ⟨p, h, hp, _⟩
 ·rw [qN h]; simp [zF, bM, dC, dB]
 ·rw [nG h hp]; have := gU bM l hp; unfold gZ; omega
def lG {α : Type} (p : Nat) (l : List α) : List α := l.take p ++ l.drop (p + 1)
theorem a2q {α : Type} {p : Nat} {l : List α} (h : p < l.length) : (lG p l).length = l.length - 1 := by simp [lG]; omega
theorem a1J {α : Type} {p k : Nat} {l : List α} (h : p < l.length) (hk : k < (lG p l).length) (e : k < p) : (lG p l)[k] = l[k] := by
 simp only [lG]
 rw [List.getElem_append_left (by simp; omega), List.getElem_take]
theorem a4y {α : Type} {p k : Nat} {l : List α} (h : p < l.length) (hk : k < (lG p l).length) (e : ¬ k < p) : (lG p l)[k] = l[k + 1]'(by rw [a2q h] at hk; omega) := by
 simp only [lG]
 rw [List.getElem_append_right (by simp; omega), List.getElem_drop]
 congr 1
 simp; omega
theorem oQ {s : TStore} (h : bR s = true) (j : Nat) (h0 : 0 < j) (hj : j < s.fFiles.length) : s.fFiles[j - 1].fID < s.fFiles[j].fID := by
 have q := ((dY hj).1 ((eX.1 h).1 j hj)).2.2
 rw [jZ _ _ h0 hj] at q
 simp only [Bool.not_eq_true', decide_eq_false_iff_not] at q
 omega
theorem a2r (l : List TFile) (k : Nat) (hk : k < l.length) (h : ∀ h0 : 0 < k, (l[k - 1]'(by omega)).fID < l[k].fID) : a0C l k = true := by
 by_cases h0 : 0 < k
 ·rw [jZ _ _ h0 hk]
  have := h h0
  simp only [Bool.not_eq_true', decide_eq_false_iff_not]
  omega
 ·exact zC _ _ h0
def sJ (s : TStore) (id : Int) : Bool := bR s && decide (0 ≤ ixF id s.fFiles)
def delS (s : TStore) (id : Int) : TStore := if sJ s id then ⟨s.fSchema, lG (ixF id s.fFiles).toNat s.fFiles, s.fNextID⟩ else s
theorem a6W {s : TStore} {id : Int} (h : sJ s id = true) : bR (delS s id) = true := by
 have h' := h
 unfold sJ at h'
 rw [Bool.and_eq_true, decide_eq_true_eq] at h'
 obtain ⟨hs, hi⟩ := h'
 obtain ⟨h1, h2, h3, h4, h5⟩ := eX.1 hs
 rcases ixF_cases id s.fFiles with e | ⟨p, e, hp, _⟩
 ·omega
 unfold delS
 rw [if_pos h, e, Int.toNat_natCast]
 have hl := a2q hp
 refine eX.2 ⟨fun k hk => ?_, h2, by simp only [hl]; omega, h4, h5⟩
 rw [dY hk]
 simp only at hk ⊢
 by_cases ek : k < p
 ·have e1 := a1J hp hk ek
  obtain ⟨q1, q2, q3⟩ := (dY (by omega)).1 (h1 k (by omega))
  refine ⟨by rw [e1]; exact q1, by rw [e1]; exact q2, a2r _ _ hk fun h0 => ?_⟩
  rw [e1, a1J hp (by omega) (by omega)]
  exact oQ hs k h0 (by omega)
 ·have e1 := a4y hp hk ek
  have hk1 : k + 1 < s.fFiles.length := by rw [hl] at hk; omega
  obtain ⟨q1, q2, q3⟩ := (dY hk1).1 (h1 (k + 1) hk1)
  refine ⟨by rw [e1]; exact q1, by rw [e1]; exact q2, a2r _ _ hk fun h0 => ?_⟩
  have u1 := oQ hs (k + 1) (by omega) hk1
  simp only [Nat.add_sub_cancel] at u1
  by_cases ep : k - 1 < p
  ·rw [e1, a1J hp (by omega) ep]
   have u2 := oQ hs k h0 (by omega)
   omega
  ·rw [e1, a4y hp (by omega) ep]
   have ee : k - 1 + 1 = k := by omega
   simp only [ee]
   exact u1
def a8f (s : TStore) (f : TFile) : Bool := bR s && (decide (0 ≤ ixF f.fID s.fFiles) && dZ s.fSchema f)
def a9I (s : TStore) (f : TFile) : TStore := if a8f s f then ⟨s.fSchema, s.fFiles.set (ixF f.fID s.fFiles).toNat f, s.fNextID⟩ else s
end Go.Proofs.YtlmpmpddakhfnaaDoor
end
section
set_option maxRecDepth 100000
set_option maxHeartbeats 4000000
namespace Go.Proofs.YtlmpmpddakhfnaaDoor
open Go Go.Sx Go.RowKit Go.Proofs
theorem a1K (id : Int) (x : TFile) : FnC Tryd.prog 88 [lD x, .o (.q [iv id])] (ob (decide (x.fID = id))) := by
 refine ent Tryd.func88 rfl Tryd.call88 rfl (fun C => ?_); simp only [go_sem, st0, Tryd.ntmps88]
 refine aF ?_
 exact aA ⟨⟨_, rfl, by simp only [go_sem]⟩, trivial⟩
theorem xG (s : TStore) (id : Int) (hl : s.fFiles.length ≤ 4300000) : FnC Tryd.prog 67 [cB s, oi id] (oi (ixF id s.fFiles)) := by
 refine ent Tryd.func67 rfl Tryd.call67 rfl (fun C => ?_); simp only [go_sem, st0, Tryd.ntmps67]
 refine sQ (rQ _ _ (fun x => decide (x.fID = id)) s.fFiles (fun y _ => a1K id y) (by omega)) ?_
 exact aA ⟨⟨_, rfl, by simp only [go_sem, ixF]⟩, trivial⟩
theorem mP (s : TStore) (id : Int) (hl : s.fFiles.length ≤ 4300000) : FnC Tryd.prog 73 [cB s, oi id] (oi (ixF id s.fFiles)) := by
 refine ent Tryd.func73 rfl Tryd.call73 rfl (fun C => ?_); simp only [go_sem, st0, Tryd.ntmps73]
 refine aF ?_
 refine dG (α := Nat) (fun k => [(5, oi k)]) (fun _ => []) (fun k => k ≤ s.fFiles.length ∧ ixF id s.fFiles = eF (fun f => decide (f.fID = id)) (s.fFiles.drop k) k) (fun k => s.fFiles.length - k) 0 (fun _ => ?_) ?_ ?_ (fun k hk => ?_)
 ·simp only [go_sem]
 ·simp only [go_sem]; simp
 ·simp [ixF]
 ·obtain ⟨hk, hq⟩ := hk
  simp only [go_sem]
  refine aF ?_
  refine cnd rfl (fun h => ?_) (fun h => ?_)
  ·simp only [decide_eq_true_eq, Int.ofNat_lt] at h
   have hd := List.drop_eq_getElem_cons h
   rw [hd, eF] at hq
   by_cases h2 : s.fFiles[k].fID = id
   ·rw [if_pos (by simp [h2])] at hq
    have q0 := @h; have q1 := @h2; have q2 := @decide_true; refine oN ?_
    exact aA ⟨⟨_, rfl, by simp only [go_sem, hq]⟩, trivial⟩
   ·rw [if_neg (by simp [h2])] at hq
    have q0 := @h; have q1 := @h2; have q2 := @decide_false; refine oN ?_
    refine aU (k + 1) ?_ ?_ ?_
    ·simp only [go_sem]; simp
    ·rw [hq]; exact ⟨h, by simp⟩
    ·omega
  ·simp only [decide_eq_false_iff_not] at h
   have e : k = s.fFiles.length := by omega
   subst e
   simp only [List.drop_length, eF] at hq
   refine aF ?_
   exact aA ⟨⟨_, rfl, by simp only [go_sem, hq]⟩, trivial⟩
theorem a0D (s : TStore) (id : Int) (h : aV s ≤ 4300000) : FnC Tryd.prog 34 [cB s, oi id] (.t [(true, (sG (findF id s.fFiles)).cells), (false, [.d (bv (decide (0 ≤ ixF id s.fFiles)))])]) := by
 have hl : s.fFiles.length ≤ 4300000 := by unfold aV gZ at h; omega
 refine ent Tryd.func34 rfl Tryd.call34 rfl (fun C => ?_); simp only [go_sem, st0, Tryd.ntmps34]
 rcases ixF_cases id s.fFiles with e | ⟨p, e, hp, _⟩
 ·have e1 := qN e
  have hz : ¬ (0 : Int) ≤ -1 := by omega
  have hk := xG s id hl
  rw [e] at hk
  have q0 := @hz; have q1 := @decide_false; refine a5i hk ?_
  exact aA ⟨⟨_, rfl, by simp only [go_sem, e, e1, hz, decide_false, zF, List.map_nil]; try simp⟩, by simp [dP]⟩
 ·have e1 := nG e hp
  have hz : (0 : Int) ≤ (p : Int) := by omega
  have hw := gU bM s.fFiles hp
  have hx : s.fFiles[p].fAttrs.length ≤ 4300000 := by
   have e : s.fFiles[p].fAttrs.length ≤ bM s.fFiles[p] := by unfold bM dC; omega
   unfold aV gZ at h; omega
  have hk := xG s id hl
  rw [e] at hk
  have q0 := @hz; have q1 := @hp; have q2 := @decide_true; have q3 := @Int.toNat_natCast; refine a1q hk (a3g s.fFiles[p] hx) ?_
  exact aA ⟨⟨_, rfl, by simp only [go_sem, e, e1, hz, decide_true]; try simp⟩, by simp [dP]⟩
theorem a0E (s : TStore) (id : Int) (h : aV s ≤ 4300000) : FnC Tryd.prog 42 [cB s, oi id] (.t [(true, (sG (findF id s.fFiles)).cells), (false, [.d (bv (decide (0 ≤ ixF id s.fFiles)))])]) := by
 have hl : s.fFiles.length ≤ 4300000 := by unfold aV gZ at h; omega
 refine ent Tryd.func42 rfl Tryd.call42 rfl (fun C => ?_); simp only [go_sem, st0, Tryd.ntmps42]
 rcases ixF_cases id s.fFiles with e | ⟨p, e, hp, _⟩
 ·have e1 := qN e
  have hz : ¬ (0 : Int) ≤ -1 := by omega
  have hy : (-1 : Int) < 0 := by omega
  have hk := mP s id hl
  rw [e] at hk
  have q0 := @hy; have q1 := @decide_true; refine a5i hk ?_
  exact aA ⟨⟨_, rfl, by simp only [go_sem, e, e1, hz, decide_false, zF, List.map_nil]; try simp⟩, by simp [dP]⟩
 ·have e1 := nG e hp
  have hz : (0 : Int) ≤ (p : Int) := by omega
  have hy : ¬ (p : Int) < 0 := by omega
  have hw := gU bM s.fFiles hp
  have hx : s.fFiles[p].fAttrs.length ≤ 4300000 := by
   have e : s.fFiles[p].fAttrs.length ≤ bM s.fFiles[p] := by unfold bM dC; omega
   unfold aV gZ at h; omega
  have hk := mP s id hl
  rw [e] at hk
  have q0 := @hy; have q1 := @hp; have q2 := @decide_false; have q3 := @Int.toNat_natCast; refine a1q hk (kC s.fFiles[p] hx) ?_
  exact aA ⟨⟨_, rfl, by simp only [go_sem, e, e1, hz, decide_true]; try simp⟩, by simp [dP]⟩
theorem a2s (l : List TFile) : ∀ r ∈ l.map bZ, r.length = 5 := by intro r hr; obtain ⟨x, _, rfl⟩ := List.mem_map.1 hr; rfl
@[go_sem] def rR (x : TStore) : SV := .g [.d (.sl (x.fSchema.map bV)), .m 56 5 (x.fFiles.map bZ), .d (iv x.fNextID)]
theorem vJ (s : TStore) (id : Int) (hs : aV s ≤ 4300000) (hd : sJ s id = true) : FnC Tryd.prog 66 [cB s, oi id] (.t [(true, (rR (delS s id)).cells), (false, [.d (bv true)])]) := by
 have h2 : s.fFiles.length ≤ 4300000 := by unfold aV gZ at hs; omega
 have hk := mP s id h2
 have hcp : FnC Tryd.prog 85 [cB s] (cB s) := (mO s hs).pu (by simp only [go_sem, and_self])
 have hv : bR s = true := by unfold sJ at hd; rw [Bool.and_eq_true] at hd; exact hd.1
 rcases ixF_cases id s.fFiles with ei | ⟨p, ei, hp, _⟩
 ·unfold sJ at hd
  rw [ei] at hd
  simp at hd
 ·refine ent Tryd.func66 rfl Tryd.call66 rfl (fun C => ?_); simp only [go_sem, st0, Tryd.ntmps66]
  have hy : ¬ (p : Int) < 0 := by omega
  rw [ei] at hk
  have hpn : ((p : Int) + 1).toNat = p + 1 := by omega
  have hT : List.take s.fFiles.length (List.map bZ s.fFiles) = List.map bZ s.fFiles := List.take_of_length_le (by simp)
  have hTk : List.take p (List.map bZ s.fFiles) = (s.fFiles.take p).map bZ := List.map_take.symm
  have hDp : List.drop (p + 1) (List.map bZ s.fFiles) = (s.fFiles.drop (p + 1)).map bZ := List.map_drop.symm
  have qH := aI @hv (aI @hy (aI @hp (aI @hpn (aI @hT (aI @hTk (aI @hDp (aI @a3R (aI @a3S (aI @a6o (aI @decide_false (aI @Int.toNat_natCast @fG))))))))))); repeat' (with_reducible first | refine nY ?_ | (refine mX ?_; try simp only [go_sem, qH]) | refine kD ?_ | (apply rE [0,5,11,13] [] [1,2,3,4,6,7,8,9,10] [1,2,3,4,6,7,8,9,10] ((.c 0 [] [1,2,3,4,6,7,8,9,10] (.c 5 [] [6,7,8,9,10] (.c 11 [12] [12] (.c 13 [] [] .n .n) .n) .n) .n)) (by simp only [go_sem]; rfl) (by simp only [go_sem]; rfl) (by simp only [go_sem]; rfl) (by decide +kernel); (focus simp only [go_sem]; done)) | exact bN | refine bE (uX ?_) ?_ | refine bF (aX ?_) ?_ | refine bG (aX ?_) ?_ | exact dE | exact oH | (refine uA ?_; simp only [go_sem, qH]; (repeat' first | omega | exact a2s _ | refine And.intro ?_ ?_); done) | refine rD ?_ | refine And.intro (a2s _) ?_ | refine cP hcp ?_ | refine cP hk ?_ | refine cP (dA s hs) ?_ | refine aO ?_ | fail)
  exact aA ⟨⟨_, rfl, by simp only [go_sem, delS, hd, ei, Int.toNat_natCast, if_true, lG, List.map_append]; try simp⟩, by simp [dP]⟩
theorem a0i : FnC Tryd.prog 63 [] (.o (.w 108 2 (gV.map bV))) := by
 refine ent Tryd.func63 rfl Tryd.call63 rfl (fun C => ?_); simp only [go_sem, st0, Tryd.ntmps63]
 refine aF ?_
 exact aA ⟨⟨_, rfl, by simp only [go_sem, gV, List.map_cons, List.map_nil]⟩, trivial⟩
theorem a0j (s : List TField) (hs : s.length ≤ 1048576) : FnC Tryd.prog 62 [.o (.d (.sl (s.map bV)))] (a1u ⟨s, [], 1⟩) := by
 have hl1 : s.length ≤ 140737488355328 := by omega
 have hl2 : s.length * 24 ≤ 140737488355328 := by omega
 refine ent Tryd.func62 rfl Tryd.call62 rfl (fun C => ?_); simp only [go_sem, st0, Tryd.ntmps62]
 have q0 := @hl1; have q1 := @hl2; refine lN ?_
 exact aA ⟨⟨_, rfl, by simp only [go_sem, List.map_nil]⟩, trivial⟩
structure storeD (k : Nat) (s : TStore) : Prop where
 sch : s.fSchema = gV
 ok : bR s = true
 nx : s.fNextID ≤ 1 + k
 ln : s.fFiles.length ≤ k
 fl : ∀ f ∈ s.fFiles, ∃ id, fileD id f
theorem a4g : okSchema gV = true := by decide +kernel
theorem a4h {id : Int} {f : TFile} (h : fileD id f) (k : Int) (hk : 1 ≤ k ∧ k ≤ 60) : dZ gV { f with fID := k } = true := by
 obtain ⟨a, b, n, t, e, h1, h2, h3, h4⟩ := h.at_
 have h0 := a6E h1 h2 h3 h4
 unfold dZ
 simp only [e, h0, a4g, Bool.true_and, Bool.and_true, inB, Bool.and_eq_true, decide_eq_true_eq]
 exact ⟨hk, h.ow, h.lk⟩
theorem a1y : storeD 0 ⟨gV, [], 1⟩ := ⟨rfl, by decide +kernel, by simp, by simp, fun f hf => by simp at hf⟩
theorem a1z {k : Nat} {s : TStore} {id : Int} {f : TFile} (h : storeD k s) (hf : fileD id f) (hk : k ≤ 40) (hl : s.fFiles.length < 12) : gY s f = true ∧ storeD (k + 1) (creS s f) ∧ (creS s f).fFiles.length = s.fFiles.length + 1 := by
 have hb := eX.1 h.ok
 have h1 := h.nx
 have hok : gY s f = true := xE.2 ⟨h.ok, hl, by rw [h.sch]; exact a4h hf s.fNextID (by omega)⟩
 have hs := a6V hok
 refine ⟨hok, ⟨?_, hs, ?_, ?_, ?_⟩, ?_⟩
 ·unfold creS; rw [if_pos hok]; exact h.sch
 ·unfold creS; rw [if_pos hok]; simp only; omega
 ·unfold creS; rw [if_pos hok]; have := h.ln; simp; omega
 ·unfold creS; rw [if_pos hok]
  intro x hx
  rcases List.mem_append.1 hx with hx | hx
  ·exact h.fl x hx
  ·simp only [List.mem_singleton] at hx
   subst hx
   exact ⟨s.fNextID, rfl, hf.ow, hf.lk, hf.at_⟩
 ·unfold creS; rw [if_pos hok]; simp
theorem a0k {α : Type} (w : α → Nat) (c : Nat) : ∀ (l : List α), (∀ x ∈ l, w x ≤ c) → dB w l ≤ l.length * c
 | [], _ => by simp [dB]
 | x :: l, h => by
  have h1 := h x List.mem_cons_self
  have h2 := a0k w c l fun y hy => h y (List.mem_cons_of_mem _ hy)
  simp only [dB, List.length_cons, Nat.add_mul]
  omega
theorem mI {k : Nat} {s : TStore} (h : storeD k s) : aV s ≤ 600 := by
 have hl : s.fFiles.length ≤ 12 := (eX.1 h.ok).2.2.1
 have h1 := a0k bM 40 s.fFiles fun f hf => by obtain ⟨id, hd⟩ := h.fl f hf; exact (tQ hd).1
 have h2 : bO gV = 8 := by decide +kernel
 unfold aV gZ
 rw [h.sch, h2]
 omega
theorem yV : FnC Tryd.prog 62 [.o (.d (.sl (gV.map bV)))] (rR ⟨gV, [], 1⟩) :=
 (a0j gV (by decide)).re [0] rfl rfl (by simp only [go_sem, and_self]) (by simp only [go_sem]; try simp) trivial
theorem uW (s : TStore) (f : TFile) (hs : aV s ≤ 4300000) (hf : bM f ≤ 4300000) : FnC Tryd.prog 64 [cB s, lD f] (.t [(true, (rR (creS s f)).cells), (false, [.d (iv (a3f s f))]), (false, [.d (bv (gY s f))])]) :=
 (wC s f hs hf).re [0] rfl rfl (by simp only [go_sem, and_self]) (by simp only [go_sem]; try simp) rfl
theorem a5u {k : Nat} {s : TStore} (h : storeD k s) (h1 : 1 < s.fFiles.length) : sJ s s.fFiles[1].fID = true := by
 unfold sJ
 rw [h.ok, Bool.true_and, decide_eq_true_eq]
 rcases idxP_spec (fun f : TFile => decide (f.fID = s.fFiles[1].fID)) s.fFiles 0 with ⟨_, e⟩ | ⟨k0, e, _⟩
 ·have := e s.fFiles[1] (List.getElem_mem h1)
  simp at this
 ·unfold ixF; rw [e]; omega
theorem a1A {k : Nat} {s : TStore} (id : Int) (h : storeD k s) : storeD k (delS s id) := by
 unfold delS
 split
 ·rename_i hd
  have h1 := a6W hd
  unfold delS at h1
  rw [if_pos hd] at h1
  refine ⟨h.sch, h1, h.nx, ?_, fun f hf => ?_⟩
  ·have h2 := h.ln
   simp only [lG, List.length_append, List.length_take, List.length_drop]
   omega
  ·simp only [lG, List.mem_append] at hf
   rcases hf with hf | hf
   ·exact h.fl f (List.mem_of_mem_take hf)
   ·exact h.fl f (List.mem_of_mem_drop hf)
 ·exact h
theorem a2Y {k m : Nat} {s : TStore} (h : storeD k s) (hk : k ≤ m) : storeD m s := ⟨h.sch, h.ok, by have := h.nx; omega, by have := h.ln; omega, h.fl⟩
theorem fP {l : List Int} (hl : gW l) : Drw l 31 [] (fun s : TStore => storeD 7 s) (fun s => rR s) := by
 have hu := yV
 have h0 : FnC Tryd.prog 63 [] (.o (.d (.sl (gV.map bV)))) := a0i.pu (by simp only [go_sem, and_self])
 intro i h hi hh; refine rJ Tryd.func31 rfl Tryd.call31 rfl (fun C b => ?_); simp only [go_sem, Tryd.ntmps31]
 refine a6p h0 hu ?_
 refine dG (α := Nat × TStore × Nat × Int) (fun x => [(4, oi x.1), (6, .o .u)]) (fun x => [(0, .pin b 89 [.sl (l.map lQ), iv x.2.2.1, iv x.2.2.2]), (3, .box 27 [.d (.sl (x.2.1.fSchema.map bV)), .s 2, .d (iv x.2.1.fNextID)]), (2, .row 56 5 (x.2.1.fFiles.map bZ) false)]) (fun x => (x.1 ≤ 7 ∧ storeD x.1 x.2.1) ∧ (x.2.2.1 ≤ l.length ∧ inR .i64 x.2.2.2)) (fun x => 8 - x.1) (0, ⟨gV, [], 1⟩, i, h) (fun _ => ?_) ?_ ?_ (fun x hx => ?_)
 ·simp only [go_sem]
 ·simp only [go_sem]; simp
 ·exact ⟨⟨Nat.zero_le _, a1y⟩, hi, hh⟩
 ·clear hi hh
  obtain ⟨k, s, i, h⟩ := x
  obtain ⟨⟨k7, hs⟩, hi, hh⟩ := hx
  simp only at k7 hs hi hh
  have hlen := hs.ln
  have hw := mI hs
  simp only [go_sem]
  refine aF ?_
  first | (refine bB (aL hl 7 (by decide) (by decide) i h hi hh) ⟨rfl, rfl⟩ ?_ rfl ?_; (focus first | rfl | (simp only [go_sem]; done))) | (refine hZ (aL hl 7 (by decide) (by decide) i h hi hh) ⟨rfl, rfl⟩ ?_ rfl ?_; (focus first | rfl | (simp only [go_sem]; done)))
  clear hi hh; rintro ⟨x, i, h⟩ ⟨hx, hi, hh⟩; simp only at hx hi hh; simp only [go_sem]
  refine aF ?_
  refine cnd rfl (fun hlt => ?_) (fun hlt => ?_)
  ·simp only [decide_eq_true_eq] at hlt
   have qH := trivial; repeat' (with_reducible first | refine nY ?_ | (refine mX ?_; try simp only [go_sem]) | refine kD ?_ | (apply rF [2,3,8] [] [0,1] [0,1] ((.c 2 [] [0] (.c 3 [4,5,6,7] [4,5,6,7] (.c 8 [] [6,7] .n .n) .n) .n)) (by simp only [go_sem]; rfl) (by simp only [go_sem]; rfl) (by simp only [go_sem]; rfl) (by decide +kernel); (focus simp only [go_sem]; done)) | exact bN | refine bE (uX ?_) ?_ | refine bF (aX ?_) ?_ | refine bG (aX ?_) ?_ | exact dE | exact oH | (refine uA ?_; simp only [go_sem]; (repeat' first | omega | refine And.intro ?_ ?_); done) | refine rD ?_ | refine aO ?_ | fail)
   first | (refine bB (kX hl 1 i h hi hh) ⟨rfl, rfl⟩ ?_ rfl ?_; (focus first | rfl | (simp only [go_sem]; done))) | (refine hZ (kX hl 1 i h hi hh) ⟨rfl, rfl⟩ ?_ rfl ?_; (focus first | rfl | (simp only [go_sem]; done)))
   clear hi hh; rintro ⟨f, i, h⟩ ⟨hf, hi, hh⟩; simp only at hf hi hh; simp only [go_sem]
   have hfw := (tQ hf).1
   obtain ⟨hc1, hc2, hc3⟩ := a1z hs hf (by omega) (by omega)
   have hcr := uW s f (by omega) (by omega)
   rw [hc1] at hcr
   generalize creS s f = s2 at *
   have qH := trivial; repeat' (with_reducible first | refine nY ?_ | (refine mX ?_; try simp only [go_sem]) | refine kD ?_ | exact bN | refine bE (uX ?_) ?_ | refine bF (aX ?_) ?_ | refine bG (aX ?_) ?_ | (refine uA ?_; simp only [go_sem]; (repeat' first | omega | refine And.intro ?_ ?_); done) | refine rD ?_ | refine cP hcr ?_ | refine aO ?_ | fail)
   refine a4H [(2, 5)] (k + 1, s2, i, h) (by simp only [go_sem]; rfl) ?_ ?_ ?_
   ·simp only [go_sem]; simp
   ·exact ⟨⟨by simp only; omega, hc2⟩, hi, hh⟩
   ·simp only; omega
  ·clear hlt
   have hs7 := a2Y hs k7
   by_cases g2 : 2 < s.fFiles.length
   ·have g2i : ((2 : Int) < (s.fFiles.length : Int)) = True := by simp; omega
    have q0 := @g2i; have q1 := @decide_true; refine lN ?_
    first | (refine bB (bQ hl 3 (by decide) (by decide) i h hi hh) ⟨rfl, rfl⟩ ?_ rfl ?_; (focus first | rfl | (simp only [go_sem]; done))) | (refine hZ (bQ hl 3 (by decide) (by decide) i h hi hh) ⟨rfl, rfl⟩ ?_ rfl ?_; (focus first | rfl | (simp only [go_sem]; done)))
    clear hi hh; rintro ⟨c1, i, h⟩ ⟨q1, hi, hh⟩; simp only at q1 hi hh; simp only [go_sem]
    cases c1
    ·refine aF ?_
     exact aN (s, i, h) ⟨⟨_, rfl, by simp only [go_sem]⟩, trivial⟩ ⟨hs7, ⟨hi, hh⟩⟩ (by simp only [go_sem])
    ·have g1 : 1 < s.fFiles.length := by omega
     have hdl := vJ s s.fFiles[1].fID (by omega) (a5u hs g1)
     have hsd := a1A s.fFiles[1].fID hs7
     generalize delS s s.fFiles[1].fID = s2 at *
     have qH := @g1; repeat' (with_reducible first | refine nY ?_ | (refine mX ?_; try simp only [go_sem, qH]) | refine kD ?_ | (apply rE [6,10] [] [0,1,2,3,4,5] [0,1,2,3,4,5] ((.c 6 [7,8,9] [7,8,9] (.c 10 [] [9] .n .n) .n)) (by simp only [go_sem]; rfl) (by simp only [go_sem]; rfl) (by simp only [go_sem]; rfl) (by decide +kernel); (focus simp only [go_sem]; done)) | exact bN | refine bE (uX ?_) ?_ | refine bF (aX ?_) ?_ | refine bG (aX ?_) ?_ | exact dE | exact oH | exact uB | refine rD ?_ | refine cP hdl ?_ | refine aO ?_ | fail)
     exact aN (s2, i, h) ⟨⟨_, rfl, by simp only [go_sem]⟩, trivial⟩ ⟨hsd, ⟨hi, hh⟩⟩ (by simp only [go_sem])
   ·have g2i : ((2 : Int) < (s.fFiles.length : Int)) = False := by simp; omega
    have q0 := @g2i; have q1 := @decide_false; refine lN ?_
    exact aN (s, i, h) ⟨⟨_, rfl, by simp only [go_sem]⟩, trivial⟩ ⟨hs7, ⟨hi, hh⟩⟩ (by simp only [go_sem])
end Go.Proofs.YtlmpmpddakhfnaaDoor
end
