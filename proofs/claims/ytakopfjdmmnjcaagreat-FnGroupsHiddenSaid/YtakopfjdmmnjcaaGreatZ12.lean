/- Joined texts. -/
import Derived.Test.YtakopfjdmmnjcaaGreatZ08
import Derived.Test.YtakopfjdmmnjcaaGreatZ09
import Derived.Test.YtakopfjdmmnjcaaGreatZ11
import Derived.Test.YtakopfjdmmnjcaaGreatZ06
import Derived.Test.YtakopfjdmmnjcaaGreatZ07
set_option linter.all false
section
set_option maxRecDepth 100000
set_option maxHeartbeats 4000000
namespace Go.Proofs.YtakopfjdmmnjcaaGreat
open Go Go.Sx Go.RowKit Go.Proofs
def usual : List TField := [⟨⟨#[97]⟩, 1⟩, ⟨⟨#[98]⟩, 1⟩, ⟨⟨#[110]⟩, 2⟩, ⟨⟨#[116]⟩, 2⟩]
def pc (s : ByteArray) : Option TValue → List TAttr
 | none => []
 | some v => [⟨s, v⟩]
def pcs (a b n t : Option TValue) : List TAttr := pc ⟨#[97]⟩ a ++ (pc ⟨#[98]⟩ b ++ (pc ⟨#[110]⟩ n ++ pc ⟨#[116]⟩ t))
theorem a6X : dW ⟨#[97]⟩ ⟨#[98]⟩ = true := by decide +kernel
theorem a6Y : dW ⟨#[97]⟩ ⟨#[110]⟩ = true := by decide +kernel
theorem a6Z : dW ⟨#[97]⟩ ⟨#[116]⟩ = true := by decide +kernel
theorem a7a : dW ⟨#[98]⟩ ⟨#[110]⟩ = true := by decide +kernel
theorem a7b : dW ⟨#[98]⟩ ⟨#[116]⟩ = true := by decide +kernel
theorem a7c : dW ⟨#[110]⟩ ⟨#[116]⟩ = true := by decide +kernel
theorem b7b (x : Int) : uT ⟨#[97]⟩ ⟨1, x, ⟨#[]⟩⟩ (pcs none none none none) = pcs (some ⟨1, x, ⟨#[]⟩⟩) none none none := by
 simp [uT, nN, isName, eO, kX, iV, pcs, pc]
theorem b7c (x : Int) (a : Option TValue) : uT ⟨#[98]⟩ ⟨1, x, ⟨#[]⟩⟩ (pcs a none none none) = pcs a (some ⟨1, x, ⟨#[]⟩⟩) none none := by
 cases a <;> simp [uT, nN, isName, eO, kX, iV, pcs, pc, a6X]
theorem b7d (s : ByteArray) (a b : Option TValue) : uT ⟨#[110]⟩ ⟨2, 0, s⟩ (pcs a b none none) = pcs a b (some ⟨2, 0, s⟩) none := by
 cases a <;> cases b <;> simp [uT, nN, isName, eO, kX, iV, pcs, pc, a6Y, a7a]
theorem b7e (s : ByteArray) (a b n : Option TValue) : uT ⟨#[116]⟩ ⟨2, 0, s⟩ (pcs a b n none) = pcs a b n (some ⟨2, 0, s⟩) := by
 cases a <;> cases b <;> cases n <;> simp [uT, nN, isName, eO, kX, iV, pcs, pc, a6Z, a7b, a7c]
def a3F (o : Option TValue) : Prop := ∀ v, o = some v → ∃ x, v = ⟨1, x, ⟨#[]⟩⟩ ∧ 0 ≤ x ∧ x ≤ 999
def words : List ByteArray := [⟨#[105, 110, 107]⟩, ⟨#[115, 101, 97]⟩, ⟨#[114, 101, 100]⟩, ⟨#[98, 108, 117, 101]⟩]
def a3G (o : Option TValue) : Prop := ∀ v, o = some v → ∃ s, v = ⟨2, 0, s⟩ ∧ s ∈ words
theorem a1Z : a3F none := fun v h => by cases h
theorem a2a : a3G none := fun v h => by cases h
theorem a7d {x : Int} (h : 0 ≤ x ∧ x ≤ 999) : a3F (some ⟨1, x, ⟨#[]⟩⟩) := fun v e => by cases e; exact ⟨x, rfl, h⟩
theorem a7e {s : ByteArray} (h : s ∈ words) : a3G (some ⟨2, 0, s⟩) := fun v e => by cases e; exact ⟨s, rfl, h⟩
structure fileD (id : Int) (f : TFile) : Prop where
 id : f.fID = id
 ow : 0 ≤ f.fOwner ∧ f.fOwner ≤ 2
 lk : 0 ≤ f.fLink ∧ f.fLink ≤ 60
 at_ : ∃ a b n t, f.fAttrs = pcs a b n t ∧ a3F a ∧ a3F b ∧ a3G n ∧ a3G t
theorem a9M {s : ByteArray} (h : s ∈ words) : fO ⟨2, 0, s⟩ = true ∧ s.size ≤ 4 ∧ s ≠ ⟨#[122, 122]⟩ := by
 have := (by decide +kernel : ∀ s ∈ words, fO ⟨2, 0, s⟩ = true ∧ s.size ≤ 4 ∧ s ≠ ⟨#[122, 122]⟩)
 exact this s h
theorem b5R {x : Int} (h : 0 ≤ x ∧ x ≤ 999) : fO ⟨1, x, ⟨#[]⟩⟩ = true := by
 unfold fO
 simp [inB, h.1, h.2]
theorem b4q (x : Int) (h : 0 ≤ x ∧ x ≤ 999) : jR usual ⟨#[97]⟩ ⟨1, x, ⟨#[]⟩⟩ = true ∧ jR usual ⟨#[98]⟩ ⟨1, x, ⟨#[]⟩⟩ = true := by
 unfold jR
 rw [b5R h]
 exact ⟨rfl, rfl⟩
theorem b4r (s : ByteArray) (h : s ∈ words) : jR usual ⟨#[110]⟩ ⟨2, 0, s⟩ = true ∧ jR usual ⟨#[116]⟩ ⟨2, 0, s⟩ = true := by
 unfold jR
 rw [(a9M h).1]
 exact ⟨rfl, rfl⟩
theorem b5S {a b n t : Option TValue} (ha : a3F a) (hb : a3F b) (hn : a3G n) (ht : a3G t) : (List.range (pcs a b n t).length).all (fP usual (pcs a b n t)) = true := by
 have key : ∀ {x : Option TValue}, a3F x → x = none ∨ ∃ k, x = some ⟨1, k, ⟨#[]⟩⟩ ∧ 0 ≤ k ∧ k ≤ 999 := fun {x} h => by
  cases x with
  | none => exact .inl rfl
  | some v => obtain ⟨k, rfl, h2⟩ := h v rfl; exact .inr ⟨k, rfl, h2⟩
 have key2 : ∀ {x : Option TValue}, a3G x → x = none ∨ ∃ k, x = some ⟨2, 0, k⟩ ∧ k ∈ words := fun {x} h => by
  cases x with
  | none => exact .inl rfl
  | some v => obtain ⟨k, rfl, h2⟩ := h v rfl; exact .inr ⟨k, rfl, h2⟩
 rw [List.all_eq_true]
 rcases key ha with rfl | ⟨x, rfl, hx⟩ <;> rcases key hb with rfl | ⟨y, rfl, hy⟩ <;> rcases key2 hn with rfl | ⟨p, rfl, hp⟩ <;> rcases key2 ht with rfl | ⟨q, rfl, hq⟩ <;>
  (intro k hk
   rw [List.mem_range] at hk
   simp only [pcs, pc, List.nil_append, List.singleton_append, List.append_nil, List.length_cons, List.length_nil] at hk ⊢
   match k, hk with
   | 0, h0 => first | (exfalso; omega) | (simp [fP, mQ, b4q, b4r, a6X, a6Y, a6Z, a7a, a7b, a7c, *]; done)
   | 1, h0 => first | (exfalso; omega) | (simp [fP, mQ, b4q, b4r, a6X, a6Y, a6Z, a7a, a7b, a7c, *]; done)
   | 2, h0 => first | (exfalso; omega) | (simp [fP, mQ, b4q, b4r, a6X, a6Y, a6Z, a7a, a7b, a7c, *]; done)
   | 3, h0 => first | (exfalso; omega) | (simp [fP, mQ, b4q, b4r, a6X, a6Y, a6Z, a7a, a7b, a7c, *]; done))
theorem wP {id : Int} {f : TFile} (h : fileD id f) : bA f ≤ 40 ∧ wQ f.fAttrs ∧ ∀ a ∈ f.fAttrs, a.fValue.fStr ≠ ⟨#[122, 122]⟩ := by
 obtain ⟨a, b, n, t, e, h1, h2, h3, h4⟩ := h.at_
 have key : ∀ (nm : ByteArray) (x : Option TValue), nm.size = 1 → (a3F x ∨ a3G x) → (pc nm x).length + bI iU (pc nm x) ≤ 6 ∧ (∀ y ∈ pc nm x, a8N y ∧ y.fValue.fStr ≠ ⟨#[122, 122]⟩) := fun nm x hn hx => by
  cases x with
  | none => exact ⟨by simp [pc, bI], fun y hy => by simp [pc] at hy⟩
  | some v =>
   rcases hx with hx | hx
   ·obtain ⟨k, rfl, h1, h2⟩ := hx v rfl
    refine ⟨by simp [pc, bI, iU, iG, hn]; decide, fun y hy => ?_⟩
    simp [pc] at hy
    subst hy
    exact ⟨⟨by simp only [hn]; omega, in1, by simp only [inR]; omega, Nat.zero_le _⟩, fun q => by have := congrArg ByteArray.size q; simp at this; exact absurd this (by decide)⟩
   ·obtain ⟨s, rfl, hs⟩ := hx v rfl
    obtain ⟨-, h2, h3⟩ := a9M hs
    refine ⟨by simp [pc, bI, iU, iG, hn]; omega, fun y hy => ?_⟩
    simp [pc] at hy
    subst hy
    exact ⟨⟨by simp only [hn]; omega, in2, in0, by simp only; omega⟩, h3⟩
 have ka := key ⟨#[97]⟩ a rfl (.inl h1)
 have kb := key ⟨#[98]⟩ b rfl (.inl h2)
 have kn := key ⟨#[110]⟩ n rfl (.inr h3)
 have kt := key ⟨#[116]⟩ t rfl (.inr h4)
 have hw : ∀ (l m : List TAttr), bI iU (l ++ m) = bI iU l + bI iU m := fun l m => by
  induction l with
  | nil => simp [bI]
  | cons x l ih => simp only [List.cons_append, bI, ih]; omega
 rw [e]
 refine ⟨?_, ⟨?_, fun y hy => ?_⟩, fun y hy => ?_⟩
 ·unfold bA eT
  rw [e]
  unfold pcs
  simp only [hw, List.length_append]
  omega
 ·unfold pcs
  simp only [List.length_append]
  omega
 ·unfold pcs at hy
  simp only [List.mem_append] at hy
  rcases hy with hy | hy | hy | hy
  ·exact (ka.2 y hy).1
  ·exact (kb.2 y hy).1
  ·exact (kn.2 y hy).1
  ·exact (kt.2 y hy).1
 ·unfold pcs at hy
  simp only [List.mem_append] at hy
  rcases hy with hy | hy | hy | hy
  ·exact (ka.2 y hy).2
  ·exact (kb.2 y hy).2
  ·exact (kn.2 y hy).2
  ·exact (kt.2 y hy).2
structure fileK (fid : Int) (k : Nat) (f : TFile) : Prop where
 id : f.fID = fid
 ow : 0 ≤ f.fOwner ∧ f.fOwner ≤ 2
 lk : 0 ≤ f.fLink ∧ f.fLink ≤ 60
 at_ : ∃ a b n t, f.fAttrs = pcs a b n t ∧ a3F a ∧ a3F b ∧ a3G n ∧ a3G t ∧ (k ≤ 0 → a = none) ∧ (k ≤ 1 → b = none) ∧ (k ≤ 2 → n = none) ∧ (k ≤ 3 → t = none)
theorem qJ {fid : Int} {k : Nat} {f : TFile} (h : fileK fid k f) : f.fAttrs.length ≤ 4 := by
 obtain ⟨a, b, n, t, e, _⟩ := h.at_
 rw [e]
 cases a <;> cases b <;> cases n <;> cases t <;> simp [pcs, pc]
theorem zV {fid : Int} {k : Nat} {f : TFile} (h : fileK fid k f) : fileK fid (k + 1) f := by
 obtain ⟨a, b, n, t, e, h1, h2, h3, h4, h5, h6, h7, h8⟩ := h.at_
 exact ⟨h.id, h.ow, h.lk, a, b, n, t, e, h1, h2, h3, h4, fun q => h5 (by omega), fun q => h6 (by omega), fun q => h7 (by omega), fun q => h8 (by omega)⟩
theorem b4s {fid : Int} {f : TFile} (h : fileK fid 0 f) {x : Int} (hx : 0 ≤ x ∧ x ≤ 999) : fileK fid 1 (tX f ⟨#[97]⟩ ⟨1, x, ⟨#[]⟩⟩) := by
 obtain ⟨a, b, n, t, e, h1, h2, h3, h4, h5, h6, h7, h8⟩ := h.at_
 obtain rfl := h5 (by omega); obtain rfl := h6 (by omega); obtain rfl := h7 (by omega); obtain rfl := h8 (by omega)
 exact ⟨h.id, h.ow, h.lk, _, _, _, _, by simp only [tX, e]; exact b7b x, a7d hx, h2, h3, h4, fun q => by omega, fun _ => rfl, fun _ => rfl, fun _ => rfl⟩
theorem b4t {fid : Int} {f : TFile} (h : fileK fid 1 f) {x : Int} (hx : 0 ≤ x ∧ x ≤ 999) : fileK fid 2 (tX f ⟨#[98]⟩ ⟨1, x, ⟨#[]⟩⟩) := by
 obtain ⟨a, b, n, t, e, h1, h2, h3, h4, h5, h6, h7, h8⟩ := h.at_
 obtain rfl := h6 (by omega); obtain rfl := h7 (by omega); obtain rfl := h8 (by omega)
 exact ⟨h.id, h.ow, h.lk, _, _, _, _, by simp only [tX, e]; exact b7c x a, h1, a7d hx, h3, h4, fun q => by omega, fun q => by omega, fun _ => rfl, fun _ => rfl⟩
theorem b4u {fid : Int} {f : TFile} (h : fileK fid 2 f) {x : ByteArray} (hx : x ∈ words) : fileK fid 3 (tX f ⟨#[110]⟩ ⟨2, 0, x⟩) := by
 obtain ⟨a, b, n, t, e, h1, h2, h3, h4, h5, h6, h7, h8⟩ := h.at_
 obtain rfl := h7 (by omega); obtain rfl := h8 (by omega)
 exact ⟨h.id, h.ow, h.lk, _, _, _, _, by simp only [tX, e]; exact b7d x a b, h1, h2, a7e hx, h4, fun q => by omega, fun q => by omega, fun q => by omega, fun _ => rfl⟩
theorem b4v {fid : Int} {f : TFile} (h : fileK fid 3 f) {x : ByteArray} (hx : x ∈ words) : fileK fid 4 (tX f ⟨#[116]⟩ ⟨2, 0, x⟩) := by
 obtain ⟨a, b, n, t, e, h1, h2, h3, h4, h5, h6, h7, h8⟩ := h.at_
 obtain rfl := h8 (by omega)
 exact ⟨h.id, h.ow, h.lk, _, _, _, _, by simp only [tX, e]; exact b7e x a b n, h1, h2, h3, a7e hx, fun q => by omega, fun q => by omega, fun q => by omega, fun q => by omega⟩
theorem b4w {fid : Int} {f : TFile} (h : fileK fid 4 f) : fileD fid f := by
 obtain ⟨a, b, n, t, e, h1, h2, h3, h4, _⟩ := h.at_
 exact ⟨h.id, h.ow, h.lk, a, b, n, t, e, h1, h2, h3, h4⟩
@[go_sem] def wd1 : List ByteArray := [⟨#[105, 110, 107]⟩, ⟨#[115, 101, 97]⟩]
@[go_sem] def wd2 : List ByteArray := [⟨#[114, 101, 100]⟩, ⟨#[98, 108, 117, 101]⟩]
theorem b7f : ∀ s ∈ wd1, s ∈ words := by
 intro s hs; simp [wd1] at hs; rcases hs with rfl | rfl <;> simp [words]
theorem b7g : ∀ s ∈ wd2, s ∈ words := by
 intro s hs; simp [wd2] at hs; rcases hs with rfl | rfl <;> simp [words]
theorem jA {l : List Int} (hl : iT l) (fid : Int) : Drw l 105 [oi fid] (fun f : TFile => fileD fid f) (fun f => a2P f) := by
 intro i h hi hh; refine rY Tryz.func105 rfl Tryz.call105 rfl (fun C b => ?_); simp only [go_sem, Tryz.ntmps105]
 refine aD ?_
 first | (refine bE (aH hl 3 (by decide) (by decide) i h hi hh) ⟨rfl, rfl⟩ ?_ rfl ?_; (focus first | rfl | (simp only [go_sem]; done))) | (refine hZ (aH hl 3 (by decide) (by decide) i h hi hh) ⟨rfl, rfl⟩ ?_ rfl ?_; (focus first | rfl | (simp only [go_sem]; done)))
 clear hi hh; rintro ⟨ow, i, h⟩ ⟨how, hi, hh⟩; simp only at how hi hh; simp only [go_sem]
 refine aD ?_
 first | (refine bE (eY hl 2 (by decide) (by decide) i h hi hh) ⟨rfl, rfl⟩ ?_ rfl ?_; (focus first | rfl | (simp only [go_sem]; done))) | (refine hZ (eY hl 2 (by decide) (by decide) i h hi hh) ⟨rfl, rfl⟩ ?_ rfl ?_; (focus first | rfl | (simp only [go_sem]; done)))
 clear hi hh; rintro ⟨sh, i, h⟩ ⟨q0, hi, hh⟩; simp only at q0 hi hh; simp only [go_sem]
 refine aD ?_
 first | (refine bE (eY hl 2 (by decide) (by decide) i h hi hh) ⟨rfl, rfl⟩ ?_ rfl ?_; (focus first | rfl | (simp only [go_sem]; done))) | (refine hZ (eY hl 2 (by decide) (by decide) i h hi hh) ⟨rfl, rfl⟩ ?_ rfl ?_; (focus first | rfl | (simp only [go_sem]; done)))
 clear hi hh; rintro ⟨c1, i, h⟩ ⟨q1, hi, hh⟩; simp only at q1 hi hh; simp only [go_sem]
 repeat' (with_reducible first | refine nX ?_ | (refine mX ?_; try simp only [go_sem]) | refine kD ?_ | refine aO ?_ | fail)
 refine a1P 2 4 110 4 rfl rfl ?_
 simp only [go_sem]
 refine zW (α := TFile × Nat × Int) (fun _ => []) (fun x => [(0, .pin b 97 [.sl (l.map rX), iv x.2.1, iv x.2.2]), (2, .box 69 [.d (iv x.1.fID), .d (iv x.1.fOwner), .d (bv x.1.fShared), .d (iv x.1.fLink), .s 3]), (3, .row 110 4 (x.1.fAttrs.map fJ) true)]) (fun x => fileK fid 0 x.1 ∧ (x.2.1 ≤ l.length ∧ inR .i64 x.2.2)) ?_ ?_
 ·cases c1
  ·refine aD ?_
   exact nT (⟨fid, ow, sh, 0, []⟩, i, h) ⟨⟨rfl, by simp only; omega, by simp, none, none, none, none, rfl, a1Z, a1Z, a2a, a2a, fun _ => rfl, fun _ => rfl, fun _ => rfl, fun _ => rfl⟩, ⟨hi, hh⟩⟩ (by simp only [go_sem]; simp) (by simp only [go_sem])
  ·refine aD ?_
   first | (refine bE (aH hl 7 (by decide) (by decide) i h hi hh) ⟨rfl, rfl⟩ ?_ rfl ?_; (focus first | rfl | (simp only [go_sem]; done))) | (refine hZ (aH hl 7 (by decide) (by decide) i h hi hh) ⟨rfl, rfl⟩ ?_ rfl ?_; (focus first | rfl | (simp only [go_sem]; done)))
   clear hi hh; rintro ⟨lk, i, h⟩ ⟨hlk, hi, hh⟩; simp only at hlk hi hh; simp only [go_sem]
   refine aD ?_
   exact nT (⟨fid, ow, sh, lk, []⟩, i, h) ⟨⟨rfl, by simp only; omega, by simp only; omega, none, none, none, none, rfl, a1Z, a1Z, a2a, a2a, fun _ => rfl, fun _ => rfl, fun _ => rfl, fun _ => rfl⟩, ⟨hi, hh⟩⟩ (by simp only [go_sem]; simp) (by simp only [go_sem])
 ·rintro ⟨f, i, h⟩ ⟨hf, hi, hh⟩
  simp only at hf hi hh
  simp only [go_sem]
  refine aD ?_
  first | (refine bE (eY hl 4 (by decide) (by decide) i h hi hh) ⟨rfl, rfl⟩ ?_ rfl ?_; (focus first | rfl | (simp only [go_sem]; done))) | (refine hZ (eY hl 4 (by decide) (by decide) i h hi hh) ⟨rfl, rfl⟩ ?_ rfl ?_; (focus first | rfl | (simp only [go_sem]; done)))
  clear hi hh; rintro ⟨c1, i, h⟩ ⟨q1, hi, hh⟩; simp only at q1 hi hh; simp only [go_sem]
  repeat' (with_reducible first | refine nX ?_ | (refine mX ?_; try simp only [go_sem]) | refine kD ?_ | refine aO ?_ | fail)
  refine zW (α := TFile × Nat × Int) (fun _ => []) (fun x => [(0, .pin b 97 [.sl (l.map rX), iv x.2.1, iv x.2.2]), (2, .box 69 [.d (iv x.1.fID), .d (iv x.1.fOwner), .d (bv x.1.fShared), .d (iv x.1.fLink), .s 3]), (3, .row 110 4 (x.1.fAttrs.map fJ) true)]) (fun x => fileK fid 1 x.1 ∧ (x.2.1 ≤ l.length ∧ inR .i64 x.2.2)) ?_ ?_
  ·cases c1
   ·have hw := qJ hf
    have hf0 : f.fAttrs.length ≤ 4200000 := by omega
    have qH := trivial; repeat' (with_reducible first | refine nY ?_ | (refine mX ?_; try simp only [go_sem]) | refine kD ?_ | (apply rF [2,3,4,5] [] [0,1] [0,1] ((.c 2 [] [0] (.c 3 [] [0] (.c 4 [] [] (.c 5 [] [] .n .n) .n) .n) .n)) (by simp only [go_sem]; rfl) (by simp only [go_sem]; rfl) (by simp only [go_sem]; rfl) (by decide +kernel); (focus simp only [go_sem]; done)) | exact bJ | refine aP (uX ?_) ?_ | refine aQ (aX ?_) ?_ | refine aR (aX ?_) ?_ | exact bY | exact oH | (refine uA ?_; simp only [go_sem]; (repeat' first | omega | refine And.intro ?_ ?_); done) | refine rD ?_ | refine aO ?_ | fail)
    first | (refine bE (aH hl 4 (by decide) (by decide) i h hi hh) ⟨rfl, rfl⟩ ?_ rfl ?_; (focus first | rfl | (simp only [go_sem]; done))) | (refine hZ (aH hl 4 (by decide) (by decide) i h hi hh) ⟨rfl, rfl⟩ ?_ rfl ?_; (focus first | rfl | (simp only [go_sem]; done)))
    clear hi hh; rintro ⟨x, i, h⟩ ⟨hx, hi, hh⟩; simp only at hx hi hh; simp only [go_sem]
    have qH := trivial; repeat' (with_reducible first | refine nY ?_ | (refine mX ?_; try simp only [go_sem]) | refine kD ?_ | exact bJ | refine aP (uX ?_) ?_ | refine aQ (aX ?_) ?_ | refine aR (aX ?_) ?_ | (refine uA ?_; simp only [go_sem]; (repeat' first | omega | refine And.intro ?_ ?_); done) | refine rD ?_ | refine cP (oZ x) ?_ | refine hR (dJ f ⟨#[97]⟩ ⟨1, x, ⟨#[]⟩⟩ hf0) ?_ | refine vR (dJ f ⟨#[97]⟩ ⟨1, x, ⟨#[]⟩⟩ hf0) ?_ | refine vD (dJ f ⟨#[97]⟩ ⟨1, x, ⟨#[]⟩⟩ hf0) ?_ | refine aO ?_ | fail)
    exact a2b [(3, 4)] (tX f ⟨#[97]⟩ ⟨1, x, ⟨#[]⟩⟩, i, h) ⟨b4s hf (by omega), ⟨hi, hh⟩⟩ (by simp only [go_sem]; rfl) (by simp only [go_sem]; simp) (by simp only [go_sem])
   ·have hw := qJ hf
    refine aD ?_
    exact nT (f, i, h) ⟨zV hf, ⟨hi, hh⟩⟩ (by simp only [go_sem]; simp) (by simp only [go_sem])
  ·rintro ⟨f, i, h⟩ ⟨hf, hi, hh⟩
   simp only at hf hi hh
   simp only [go_sem]
   refine aD ?_
   first | (refine bE (eY hl 2 (by decide) (by decide) i h hi hh) ⟨rfl, rfl⟩ ?_ rfl ?_; (focus first | rfl | (simp only [go_sem]; done))) | (refine hZ (eY hl 2 (by decide) (by decide) i h hi hh) ⟨rfl, rfl⟩ ?_ rfl ?_; (focus first | rfl | (simp only [go_sem]; done)))
   clear hi hh; rintro ⟨c1, i, h⟩ ⟨q1, hi, hh⟩; simp only at q1 hi hh; simp only [go_sem]
   repeat' (with_reducible first | refine nX ?_ | (refine mX ?_; try simp only [go_sem]) | refine kD ?_ | refine aO ?_ | fail)
   refine zW (α := TFile × Nat × Int) (fun _ => []) (fun x => [(0, .pin b 97 [.sl (l.map rX), iv x.2.1, iv x.2.2]), (2, .box 69 [.d (iv x.1.fID), .d (iv x.1.fOwner), .d (bv x.1.fShared), .d (iv x.1.fLink), .s 3]), (3, .row 110 4 (x.1.fAttrs.map fJ) true)]) (fun x => fileK fid 2 x.1 ∧ (x.2.1 ≤ l.length ∧ inR .i64 x.2.2)) ?_ ?_
   ·cases c1
    ·have hw := qJ hf
     refine aD ?_
     exact nT (f, i, h) ⟨zV hf, ⟨hi, hh⟩⟩ (by simp only [go_sem]; simp) (by simp only [go_sem])
    ·have hw := qJ hf
     have hf0 : f.fAttrs.length ≤ 4200000 := by omega
     have qH := trivial; repeat' (with_reducible first | refine nY ?_ | (refine mX ?_; try simp only [go_sem]) | refine kD ?_ | (apply rF [2,3,4,5] [] [0,1] [0,1] ((.c 2 [] [0] (.c 3 [] [0] (.c 4 [] [] (.c 5 [] [] .n .n) .n) .n) .n)) (by simp only [go_sem]; rfl) (by simp only [go_sem]; rfl) (by simp only [go_sem]; rfl) (by decide +kernel); (focus simp only [go_sem]; done)) | exact bJ | refine aP (uX ?_) ?_ | refine aQ (aX ?_) ?_ | refine aR (aX ?_) ?_ | exact bY | exact oH | (refine uA ?_; simp only [go_sem]; (repeat' first | omega | refine And.intro ?_ ?_); done) | refine rD ?_ | refine aO ?_ | fail)
     first | (refine bE (aH hl 4 (by decide) (by decide) i h hi hh) ⟨rfl, rfl⟩ ?_ rfl ?_; (focus first | rfl | (simp only [go_sem]; done))) | (refine hZ (aH hl 4 (by decide) (by decide) i h hi hh) ⟨rfl, rfl⟩ ?_ rfl ?_; (focus first | rfl | (simp only [go_sem]; done)))
     clear hi hh; rintro ⟨x, i, h⟩ ⟨hx, hi, hh⟩; simp only at hx hi hh; simp only [go_sem]
     have qH := trivial; repeat' (with_reducible first | refine nY ?_ | (refine mX ?_; try simp only [go_sem]) | refine kD ?_ | exact bJ | refine aP (uX ?_) ?_ | refine aQ (aX ?_) ?_ | refine aR (aX ?_) ?_ | (refine uA ?_; simp only [go_sem]; (repeat' first | omega | refine And.intro ?_ ?_); done) | refine rD ?_ | refine cP (oZ x) ?_ | refine hR (dJ f ⟨#[98]⟩ ⟨1, x, ⟨#[]⟩⟩ hf0) ?_ | refine vR (dJ f ⟨#[98]⟩ ⟨1, x, ⟨#[]⟩⟩ hf0) ?_ | refine vD (dJ f ⟨#[98]⟩ ⟨1, x, ⟨#[]⟩⟩ hf0) ?_ | refine aO ?_ | fail)
     exact a2b [(3, 4)] (tX f ⟨#[98]⟩ ⟨1, x, ⟨#[]⟩⟩, i, h) ⟨b4t hf (by omega), ⟨hi, hh⟩⟩ (by simp only [go_sem]; rfl) (by simp only [go_sem]; simp) (by simp only [go_sem])
   ·rintro ⟨f, i, h⟩ ⟨hf, hi, hh⟩
    simp only at hf hi hh
    simp only [go_sem]
    refine aD ?_
    first | (refine bE (eY hl 3 (by decide) (by decide) i h hi hh) ⟨rfl, rfl⟩ ?_ rfl ?_; (focus first | rfl | (simp only [go_sem]; done))) | (refine hZ (eY hl 3 (by decide) (by decide) i h hi hh) ⟨rfl, rfl⟩ ?_ rfl ?_; (focus first | rfl | (simp only [go_sem]; done)))
    clear hi hh; rintro ⟨c1, i, h⟩ ⟨q1, hi, hh⟩; simp only at q1 hi hh; simp only [go_sem]
    repeat' (with_reducible first | refine nX ?_ | (refine mX ?_; try simp only [go_sem]) | refine kD ?_ | refine aO ?_ | fail)
    refine zW (α := TFile × Nat × Int) (fun _ => []) (fun x => [(0, .pin b 97 [.sl (l.map rX), iv x.2.1, iv x.2.2]), (2, .box 69 [.d (iv x.1.fID), .d (iv x.1.fOwner), .d (bv x.1.fShared), .d (iv x.1.fLink), .s 3]), (3, .row 110 4 (x.1.fAttrs.map fJ) true)]) (fun x => fileK fid 3 x.1 ∧ (x.2.1 ≤ l.length ∧ inR .i64 x.2.2)) ?_ ?_
    ·cases c1
     ·have hw := qJ hf
      have hf0 : f.fAttrs.length ≤ 4200000 := by omega
      have qH := trivial; repeat' (with_reducible first | refine nY ?_ | (refine mX ?_; try simp only [go_sem]) | refine kD ?_ | (apply rF [2,3,4,5,6] [] [0,1] [0,1] ((.c 2 [] [0,1] (.c 3 [] [0] (.c 4 [] [0] (.c 5 [] [] (.c 6 [] [] .n .n) .n) .n) .n) .n)) (by simp only [go_sem]; rfl) (by simp only [go_sem]; rfl) (by simp only [go_sem]; rfl) (by decide +kernel); (focus simp only [go_sem]; done)) | exact bJ | refine aP (uX ?_) ?_ | refine aQ (aX ?_) ?_ | refine aR (aX ?_) ?_ | exact bY | exact oH | (refine uA ?_; simp only [go_sem]; (repeat' first | omega | refine And.intro ?_ ?_); done) | refine rD ?_ | refine aO ?_ | fail)
      first | (refine bE (dX hl wd1 (by decide) (by decide) i h hi hh) ⟨rfl, rfl⟩ ?_ rfl ?_; (focus first | rfl | (simp only [go_sem]; done))) | (refine hZ (dX hl wd1 (by decide) (by decide) i h hi hh) ⟨rfl, rfl⟩ ?_ rfl ?_; (focus first | rfl | (simp only [go_sem]; done)))
      clear hi hh; rintro ⟨x, i, h⟩ ⟨hx, hi, hh⟩; simp only at hx hi hh; simp only [go_sem]
      have qH := trivial; repeat' (with_reducible first | refine nY ?_ | (refine mX ?_; try simp only [go_sem]) | refine kD ?_ | exact bJ | refine aP (uX ?_) ?_ | refine aQ (aX ?_) ?_ | refine aR (aX ?_) ?_ | (refine uA ?_; simp only [go_sem]; (repeat' first | omega | refine And.intro ?_ ?_); done) | refine rD ?_ | refine cP (rW x) ?_ | refine hR (dJ f ⟨#[110]⟩ ⟨2, 0, x⟩ hf0) ?_ | refine vR (dJ f ⟨#[110]⟩ ⟨2, 0, x⟩ hf0) ?_ | refine vD (dJ f ⟨#[110]⟩ ⟨2, 0, x⟩ hf0) ?_ | refine aO ?_ | fail)
      exact a2b [(3, 5)] (tX f ⟨#[110]⟩ ⟨2, 0, x⟩, i, h) ⟨b4u hf (b7f x hx), ⟨hi, hh⟩⟩ (by simp only [go_sem]; rfl) (by simp only [go_sem]; simp) (by simp only [go_sem])
     ·have hw := qJ hf
      refine aD ?_
      exact nT (f, i, h) ⟨zV hf, ⟨hi, hh⟩⟩ (by simp only [go_sem]; simp) (by simp only [go_sem])
    ·rintro ⟨f, i, h⟩ ⟨hf, hi, hh⟩
     simp only at hf hi hh
     simp only [go_sem]
     refine aD ?_
     first | (refine bE (eY hl 2 (by decide) (by decide) i h hi hh) ⟨rfl, rfl⟩ ?_ rfl ?_; (focus first | rfl | (simp only [go_sem]; done))) | (refine hZ (eY hl 2 (by decide) (by decide) i h hi hh) ⟨rfl, rfl⟩ ?_ rfl ?_; (focus first | rfl | (simp only [go_sem]; done)))
     clear hi hh; rintro ⟨c1, i, h⟩ ⟨q1, hi, hh⟩; simp only at q1 hi hh; simp only [go_sem]
     repeat' (with_reducible first | refine nX ?_ | (refine mX ?_; try simp only [go_sem]) | refine kD ?_ | refine aO ?_ | fail)
     refine zW (α := TFile × Nat × Int) (fun _ => []) (fun x => [(0, .pin b 97 [.sl (l.map rX), iv x.2.1, iv x.2.2]), (2, .box 69 [.d (iv x.1.fID), .d (iv x.1.fOwner), .d (bv x.1.fShared), .d (iv x.1.fLink), .s 3]), (3, .row 110 4 (x.1.fAttrs.map fJ) true)]) (fun x => fileK fid 4 x.1 ∧ (x.2.1 ≤ l.length ∧ inR .i64 x.2.2)) ?_ ?_
     ·cases c1
      ·have hw := qJ hf
       refine aD ?_
       exact nT (f, i, h) ⟨zV hf, ⟨hi, hh⟩⟩ (by simp only [go_sem]; simp) (by simp only [go_sem])
      ·have hw := qJ hf
       have hf0 : f.fAttrs.length ≤ 4200000 := by omega
       have qH := trivial; repeat' (with_reducible first | refine nY ?_ | (refine mX ?_; try simp only [go_sem]) | refine kD ?_ | (apply rF [2,3,4,5,6] [] [0,1] [0,1] ((.c 2 [] [0,1] (.c 3 [] [0] (.c 4 [] [0] (.c 5 [] [] (.c 6 [] [] .n .n) .n) .n) .n) .n)) (by simp only [go_sem]; rfl) (by simp only [go_sem]; rfl) (by simp only [go_sem]; rfl) (by decide +kernel); (focus simp only [go_sem]; done)) | exact bJ | refine aP (uX ?_) ?_ | refine aQ (aX ?_) ?_ | refine aR (aX ?_) ?_ | exact bY | exact oH | (refine uA ?_; simp only [go_sem]; (repeat' first | omega | refine And.intro ?_ ?_); done) | refine rD ?_ | refine aO ?_ | fail)
       first | (refine bE (dX hl wd2 (by decide) (by decide) i h hi hh) ⟨rfl, rfl⟩ ?_ rfl ?_; (focus first | rfl | (simp only [go_sem]; done))) | (refine hZ (dX hl wd2 (by decide) (by decide) i h hi hh) ⟨rfl, rfl⟩ ?_ rfl ?_; (focus first | rfl | (simp only [go_sem]; done)))
       clear hi hh; rintro ⟨x, i, h⟩ ⟨hx, hi, hh⟩; simp only at hx hi hh; simp only [go_sem]
       have qH := trivial; repeat' (with_reducible first | refine nY ?_ | (refine mX ?_; try simp only [go_sem]) | refine kD ?_ | exact bJ | refine aP (uX ?_) ?_ | refine aQ (aX ?_) ?_ | refine aR (aX ?_) ?_ | (refine uA ?_; simp only [go_sem]; (repeat' first | omega | refine And.intro ?_ ?_); done) | refine rD ?_ | refine cP (rW x) ?_ | refine hR (dJ f ⟨#[116]⟩ ⟨2, 0, x⟩ hf0) ?_ | refine vR (dJ f ⟨#[116]⟩ ⟨2, 0, x⟩ hf0) ?_ | refine vD (dJ f ⟨#[116]⟩ ⟨2, 0, x⟩ hf0) ?_ | refine aO ?_ | fail)
       exact a2b [(3, 5)] (tX f ⟨#[116]⟩ ⟨2, 0, x⟩, i, h) ⟨b4v hf (b7g x hx), ⟨hi, hh⟩⟩ (by simp only [go_sem]; rfl) (by simp only [go_sem]; simp) (by simp only [go_sem])
     ·rintro ⟨f, i, h⟩ ⟨hf, hi, hh⟩
      simp only at hf hi hh
      simp only [go_sem]
      refine aD ?_
      exact aN (f, i, h) ⟨⟨_, rfl, by simp only [go_sem]⟩, trivial⟩ ⟨b4w hf, ⟨hi, hh⟩⟩ (by simp only [go_sem])
end Go.Proofs.YtakopfjdmmnjcaaGreat
end
section
set_option maxRecDepth 100000
namespace Go.Proofs.YtakopfjdmmnjcaaGreat
open Go Go.Sx Go.RowKit Go.Proofs
theorem b8G {α : Type} (l : List α) : (l.all fun _ => true) = true := by simp
theorem a7l (l : List Int) (hl : l.length ≤ 67108864) : FnC Tryz.prog 126 [.o (.d (.sl (l.map gG)))] (.o (.w 3 1 (l.map gG))) := by
 refine ent Tryz.func126 rfl Tryz.call126 rfl (fun C => ?_); simp only [go_sem, st0, Tryz.ntmps126]
 refine aD ?_
 intro b hb
 refine aD ?_
 refine cnd rfl (fun h1 => ?_) (fun h1 => ?_)
 ·have e := hb h1
  simp only [List.map_eq_nil_iff] at e
  subst e
  refine aD ?_
  exact aA ⟨⟨_, rfl, by simp only [go_sem]⟩, trivial⟩
 ·refine aD ?_
  exact aA ⟨⟨_, rfl, by simp only [go_sem, b8G]⟩, trivial⟩
end Go.Proofs.YtakopfjdmmnjcaaGreat
end
section
set_option maxRecDepth 100000
set_option maxHeartbeats 4000000
namespace Go.Proofs.YtakopfjdmmnjcaaGreat
open Go Go.Sx Go.RowKit Go.Proofs
theorem a4F (f : TFile) (h : f.fAttrs.length ≤ 4300000) : FnC Tryz.prog 81 [iM f] (a2P f) := by
 refine ent Tryz.func81 rfl Tryz.call81 rfl (fun C => ?_); simp only [go_sem, st0, Tryz.ntmps81]
 refine iZ (a5N f.fAttrs h) ?_
 exact aA ⟨⟨_, rfl, by simp only [go_sem]⟩, trivial⟩
theorem mR (f : TFile) (h : f.fAttrs.length ≤ 4300000) : FnC Tryz.prog 66 [iM f] (a2P f) := by
 refine ent Tryz.func66 rfl Tryz.call66 rfl (fun C => ?_); simp only [go_sem, st0, Tryz.ntmps66]
 refine aD ?_
 exact aA ⟨⟨_, rfl, by simp only [go_sem]⟩, trivial⟩
theorem jY (s : TStore) (h : aJ s ≤ 4300000) : FnC Tryz.prog 134 [bG s] (a0J s) := by
 have h1 : s.fSchema.length ≤ 4300000 := by unfold aJ bH at h; omega
 have h2 : s.fFiles.length + bI bA s.fFiles ≤ 4300000 := by unfold aJ eF at h; omega
 refine ent Tryz.func134 rfl Tryz.call134 rfl (fun C => ?_); simp only [go_sem, st0, Tryz.ntmps134]
 have qH := trivial; repeat' (with_reducible first | refine nY ?_ | (refine mX ?_; try simp only [go_sem]) | refine kD ?_ | (apply rE [0,3,7,8] [] [1,2,4,5] [1,2,4,5] ((.c 0 [] [1,2,4,5] (.c 3 [6] [4,5,6] (.c 7 [] [4,5,6] (.c 8 [] [] .n .n) .n) (.c 7 [] [1,2,4,5] (.c 3 [6] [4,5,6] (.c 8 [] [] .n .n) .n) .n)) (.c 7 [] [1,2,4,5] (.c 0 [] [1,2,4,5] (.c 3 [6] [4,5,6] (.c 8 [] [] .n .n) .n) .n) .n))) (by simp only [go_sem]; rfl) (by simp only [go_sem]; rfl) (by simp only [go_sem]; rfl) (by decide +kernel); (focus simp only [go_sem]; done)) | exact bJ | refine aP (uX ?_) ?_ | refine aQ (aX ?_) ?_ | refine aR (aX ?_) ?_ | exact bY | (refine a0e [(2, 3)] (by simp only [go_sem]; rfl) ?_; exact rfl) | exact oH | (refine uA ?_; simp only [go_sem]; (repeat' first | omega | refine And.intro ?_ ?_); done) | refine rD ?_ | refine aO ?_ | fail)
 refine a1P 3 1 69 5 rfl rfl ?_
 simp only [go_sem]
 refine aY (α := Nat) (fun k => [(4, oi k)]) (fun k => [(4, .row 69 5 ((s.fFiles.take k).map bW) true)]) (fun k => k ≤ s.fFiles.length) (fun k => s.fFiles.length - k) 0 (fun _ => ?_) ?_ ?_ (fun k hk => ?_)
 ·simp only [go_sem]
 ·simp only [go_sem]; simp
 ·simp
 ·simp only [go_sem]
  refine aD ?_
  refine cnd rfl (fun h1 => ?_) (fun h1 => ?_)
  ·simp only [decide_eq_true_eq, Int.ofNat_lt] at h1
   have hw := dD bA s.fFiles h1
   have hx : s.fFiles[k].fAttrs.length ≤ 4300000 := by
    have e : s.fFiles[k].fAttrs.length ≤ bA s.fFiles[k] := by unfold bA eT; omega
    omega
   have ht := List.take_succ_eq_append_getElem h1
   have hn : (s.fFiles.take k).length = k := by rw [List.length_take]; omega
   have qH := aI @h1 @hn; repeat' (with_reducible first | refine nY ?_ | (refine mX ?_; try simp only [go_sem, qH]) | refine kD ?_ | (apply rE [7,8,9,11] [] [0,1,2,3,4,5,6] [0,1,2,3,4,5,6] ((.c 7 [] [0,1] (.c 8 [] [0,1] (.c 9 [10] [10] (.c 11 [] [] .n .n) .n) .n) .n)) (by simp only [go_sem]; rfl) (by simp only [go_sem]; rfl) (by simp only [go_sem]; rfl) (by decide +kernel); (focus simp only [go_sem]; done)) | exact bJ | refine aP (uX ?_) ?_ | refine aQ (aX ?_) ?_ | refine aR (aX ?_) ?_ | exact bY | exact oH | exact uB | refine rD ?_ | refine cP (mR s.fFiles[k] hx) ?_ | refine aO ?_ | fail)
   refine aF (k + 1) ?_ ?_ ?_
   ·simp only [go_sem, ht, List.map_append]; simp [bW]
   ·omega
   ·omega
  ·simp only [decide_eq_false_iff_not] at h1
   have e : k = s.fFiles.length := by omega
   subst e
   refine aD ?_
   exact aA ⟨⟨_, rfl, by simp only [go_sem, List.take_length]⟩, trivial⟩
theorem xO (s : TStore) (f : TFile) (hs : aJ s ≤ 4300000) (hf : bA f ≤ 4300000) : FnC Tryz.prog 104 [bG s, iM f] (.t [(true, (a0J (creS s f)).cells), (false, [.d (iv (a8S s f))]), (false, [.d (bv (lN s f))])]) := by
 have h1 : bH s.fSchema ≤ 4300000 := by unfold aJ at hs; omega
 have h2 : s.fFiles.length ≤ 4300000 := by unfold aJ eF at hs; omega
 have h3 : f.fAttrs.length ≤ 4300000 := by unfold bA eT at hf; omega
 have hm : (mkF s f) = ⟨s.fNextID, f.fOwner, f.fShared, f.fLink, f.fAttrs⟩ := rfl
 refine ent Tryz.func104 rfl Tryz.call104 rfl (fun C => ?_); simp only [go_sem, st0, Tryz.ntmps104]
 cases hv : bD s
 ·have e : lN s f = false := by simp [lN, hv]
  have qH := @hv; repeat' (with_reducible first | refine nY ?_ | (refine mX ?_; try simp only [go_sem, qH]) | refine kD ?_ | refine rD ?_ | refine cP (jY s hs) ?_ | refine cP (mR f h3) ?_ | refine vR (aV s hs) ?_ | refine vD (aV s hs) ?_ | refine aO ?_ | fail)
  exact aA ⟨⟨_, rfl, by simp only [go_sem, creS, a8S, e]; try simp⟩, by simp [cK]⟩
 by_cases hl : s.fFiles.length < 12
 case neg =>
  have e : lN s f = false := by simp [lN, hl]
  have hz : (12 : Int) ≤ (s.fFiles.length : Int) := by omega
  have qH := aI @hv (aI @hz @decide_true); repeat' (with_reducible first | refine nY ?_ | (refine mX ?_; try simp only [go_sem, qH]) | refine kD ?_ | refine rD ?_ | refine cP (jY s hs) ?_ | refine cP (mR f h3) ?_ | refine vR (aV s hs) ?_ | refine vD (aV s hs) ?_ | refine aO ?_ | fail)
  exact aA ⟨⟨_, rfl, by simp only [go_sem, creS, a8S, e]; try simp⟩, by simp [cK]⟩
 have hz : ¬ (12 : Int) ≤ (s.fFiles.length : Int) := by omega
 cases ho : dS s.fSchema (mkF s f)
 ·have e : lN s f = false := by simp [lN, ho]
  have hk := eX s.fSchema (mkF s f) h1 hf
  rw [ho, hm] at hk
  have qH := aI @hv (aI @hz @decide_false); repeat' (with_reducible first | refine nY ?_ | (refine mX ?_; try simp only [go_sem, qH]) | refine kD ?_ | refine rD ?_ | refine cP (jY s hs) ?_ | refine cP (mR f h3) ?_ | refine vR (aV s hs) ?_ | refine vD (aV s hs) ?_ | refine vR hk ?_ | refine vD hk ?_ | refine aO ?_ | fail)
  exact aA ⟨⟨_, rfl, by simp only [go_sem, creS, a8S, e]; try simp⟩, by simp [cK]⟩
 ·have e : lN s f = true := by simp [lN, hv, hl, ho]
  have hid := a4D ho
  have hid2 : 1 ≤ s.fNextID ∧ s.fNextID ≤ 60 := hid
  have hk := eX s.fSchema (mkF s f) h1 hf
  rw [ho, hm] at hk
  have qH := aI @hv (aI @hz @decide_false); repeat' (with_reducible first | refine nY ?_ | (refine mX ?_; try simp only [go_sem, qH]) | refine kD ?_ | (apply rE [3] [] [0,1,2] [0,1,2] ((.c 3 [4,5] [1,2,4,5] .n .n)) (by simp only [go_sem]; rfl) (by simp only [go_sem]; rfl) (by simp only [go_sem]; rfl) (by decide +kernel); (focus simp only [go_sem]; done)) | exact bJ | refine aP (uX ?_) ?_ | refine aQ (aX ?_) ?_ | refine aR (aX ?_) ?_ | exact bY | exact oH | exact uB | refine rD ?_ | refine cP (jY s hs) ?_ | refine cP (mR f h3) ?_ | refine vR (aV s hs) ?_ | refine vG (aV s hs) ?_ | refine vR hk ?_ | refine vG hk ?_ | refine aO ?_ | fail)
  exact aA ⟨⟨_, rfl, by simp only [go_sem, creS, a8S, e, if_true, List.map_append, mkF]; try simp [bW]⟩, by simp [cK]⟩
end Go.Proofs.YtakopfjdmmnjcaaGreat
end
section
namespace Go.Proofs.YtakopfjdmmnjcaaGreat
open Go Go.Sx Go.RowKit Go.Proofs
def ixF (id : Int) (l : List TFile) : Int := idxP (fun f => decide (f.fID = id)) l 0
theorem ixF_cases (id : Int) (l : List TFile) : (ixF id l = -1) ∨ ∃ p : Nat, ixF id l = p ∧ ∃ h : p < l.length, l[p].fID = id := by
 rcases idxP_spec (fun f : TFile => decide (f.fID = id)) l 0 with h | ⟨k, e1, e2, e5, e6⟩
 ·exact .inl h.1
 ·exact .inr ⟨k, by unfold ixF; rw [e1]; simp, e2, by simpa using e5⟩
def zF : TFile := ⟨0, 0, false, 0, []⟩
def jP (id : Int) (l : List TFile) : TFile := if 0 ≤ ixF id l then l.getD (ixF id l).toNat zF else zF
theorem a2Z {id : Int} {l : List TFile} (h : ixF id l = -1) : jP id l = zF := by unfold jP; rw [h]; rfl
theorem a0N {id : Int} {l : List TFile} {p : Nat} (h : ixF id l = p) (hp : p < l.length) : jP id l = l[p] := by unfold jP; rw [h, if_pos (by omega)]; simp [hp]
theorem a5P (id : Int) (l : List TFile) : bA (jP id l) ≤ eF l := by
 rcases ixF_cases id l with h | ⟨p, h, hp, _⟩
 ·rw [a2Z h]; simp [zF, bA, eT, bI]
 ·rw [a0N h hp]; have := dD bA l hp; unfold eF; omega
def kZ {α : Type} (p : Nat) (l : List α) : List α := l.take p ++ l.drop (p + 1)
theorem b0c {α : Type} {p : Nat} {l : List α} (h : p < l.length) : (kZ p l).length = l.length - 1 := by simp [kZ]; omega
theorem a8T {α : Type} {p k : Nat} {l : List α} (h : p < l.length) (hk : k < (kZ p l).length) (e : k < p) : (kZ p l)[k] = l[k] := by
 simp only [kZ]
 rw [List.getElem_append_left (by simp; omega), List.getElem_take]
theorem b3b {α : Type} {p k : Nat} {l : List α} (h : p < l.length) (hk : k < (kZ p l).length) (e : ¬ k < p) : (kZ p l)[k] = l[k + 1]'(by rw [b0c h] at hk; omega) := by
 simp only [kZ]
 rw [List.getElem_append_right (by simp; omega), List.getElem_drop]
 congr 1
 simp; omega
theorem b5d {α : Type} (f : α → Nat) : ∀ (p : Nat) (l : List α), bI f (kZ p l) ≤ bI f l
 | _, [] => by simp [kZ, bI]
 | 0, x :: l => by simp [kZ, bI]
 | p + 1, x :: l => by
  have ih := b5d f p l
  simp only [kZ, List.take_succ_cons, List.drop_succ_cons, List.cons_append, bI] at ih ⊢
  omega
theorem b5e {α : Type} (f : α → Nat) (y : α) : ∀ (p : Nat) (l : List α), bI f (l.set p y) ≤ bI f l + f y
 | _, [] => by simp [bI]
 | 0, x :: l => by simp only [List.set_cons_zero, bI]; omega
 | p + 1, x :: l => by
  have ih := b5e f y p l
  simp only [List.set_cons_succ, bI]
  omega
theorem uF {s : TStore} (h : bD s = true) (j : Nat) (h0 : 0 < j) (hj : j < s.fFiles.length) : s.fFiles[j - 1].fID < s.fFiles[j].fID := by
 have q := ((fC hj).1 ((fE.1 h).1 j hj)).2.2
 rw [pF _ _ h0 hj] at q
 simp only [Bool.not_eq_true', decide_eq_false_iff_not] at q
 omega
theorem a5Q (l : List TFile) (k : Nat) (hk : k < l.length) (h : ∀ h0 : 0 < k, (l[k - 1]'(by omega)).fID < l[k].fID) : a5O l k = true := by
 by_cases h0 : 0 < k
 ·rw [pF _ _ h0 hk]
  have := h h0
  simp only [Bool.not_eq_true', decide_eq_false_iff_not]
  omega
 ·exact a2Y _ _ h0
def pG (s : TStore) (id : Int) : Bool := bD s && decide (0 ≤ ixF id s.fFiles)
def delS (s : TStore) (id : Int) : TStore := if pG s id then ⟨s.fSchema, kZ (ixF id s.fFiles).toNat s.fFiles, s.fNextID⟩ else s
theorem b6o {s : TStore} {id : Int} (h : pG s id = true) : bD (delS s id) = true := by
 have h' := h
 unfold pG at h'
 rw [Bool.and_eq_true, decide_eq_true_eq] at h'
 obtain ⟨hs, hi⟩ := h'
 obtain ⟨h1, h2, h3, h4, h5⟩ := fE.1 hs
 rcases ixF_cases id s.fFiles with e | ⟨p, e, hp, _⟩
 ·omega
 unfold delS
 rw [if_pos h, e, Int.toNat_natCast]
 have hl := b0c hp
 refine fE.2 ⟨fun k hk => ?_, h2, by simp only [hl]; omega, h4, h5⟩
 rw [fC hk]
 simp only at hk ⊢
 by_cases ek : k < p
 ·have e1 := a8T hp hk ek
  obtain ⟨q1, q2, q3⟩ := (fC (by omega)).1 (h1 k (by omega))
  refine ⟨by rw [e1]; exact q1, by rw [e1]; exact q2, a5Q _ _ hk fun h0 => ?_⟩
  rw [e1, a8T hp (by omega) (by omega)]
  exact uF hs k h0 (by omega)
 ·have e1 := b3b hp hk ek
  have hk1 : k + 1 < s.fFiles.length := by rw [hl] at hk; omega
  obtain ⟨q1, q2, q3⟩ := (fC hk1).1 (h1 (k + 1) hk1)
  refine ⟨by rw [e1]; exact q1, by rw [e1]; exact q2, a5Q _ _ hk fun h0 => ?_⟩
  have u1 := uF hs (k + 1) (by omega) hk1
  simp only [Nat.add_sub_cancel] at u1
  by_cases ep : k - 1 < p
  ·rw [e1, a8T hp (by omega) ep]
   have u2 := uF hs k h0 (by omega)
   omega
  ·rw [e1, b3b hp (by omega) ep]
   have ee : k - 1 + 1 = k := by omega
   simp only [ee]
   exact u1
theorem b6p (s : TStore) (id : Int) : aJ (delS s id) ≤ aJ s := by
 unfold delS
 split
 ·have h := b5d bA (ixF id s.fFiles).toNat s.fFiles
  have hl : (kZ (ixF id s.fFiles).toNat s.fFiles).length ≤ s.fFiles.length := by simp [kZ]; omega
  unfold aJ eF; simp only; omega
 ·omega
def uO (s : TStore) (f : TFile) : Bool := bD s && (decide (0 ≤ ixF f.fID s.fFiles) && dS s.fSchema f)
def repS (s : TStore) (f : TFile) : TStore := if uO s f then ⟨s.fSchema, s.fFiles.set (ixF f.fID s.fFiles).toNat f, s.fNextID⟩ else s
theorem b6q (s : TStore) (f : TFile) : aJ (repS s f) ≤ aJ s + bA f := by
 unfold repS
 split
 ·have h := b5e bA f (ixF f.fID s.fFiles).toNat s.fFiles
  unfold aJ eF; simp only [List.length_set]; omega
 ·omega
end Go.Proofs.YtakopfjdmmnjcaaGreat
end
section
set_option maxRecDepth 100000
set_option maxHeartbeats 4000000
namespace Go.Proofs.YtakopfjdmmnjcaaGreat
open Go Go.Sx Go.RowKit Go.Proofs
theorem a8U (id : Int) (x : TFile) : FnC Tryz.prog 123 [iM x, .o (.q [iv id])] (ob (decide (x.fID = id))) := by
 refine ent Tryz.func123 rfl Tryz.call123 rfl (fun C => ?_); simp only [go_sem, st0, Tryz.ntmps123]
 refine aD ?_
 exact aA ⟨⟨_, rfl, by simp only [go_sem]⟩, trivial⟩
theorem a0O (s : TStore) (id : Int) (hl : s.fFiles.length ≤ 4300000) : FnC Tryz.prog 82 [bG s, oi id] (oi (ixF id s.fFiles)) := by
 refine ent Tryz.func82 rfl Tryz.call82 rfl (fun C => ?_); simp only [go_sem, st0, Tryz.ntmps82]
 refine iZ (a0M _ _ (fun x => decide (x.fID = id)) s.fFiles (fun y _ => a8U id y) (by omega)) ?_
 exact aA ⟨⟨_, rfl, by simp only [go_sem, ixF]⟩, trivial⟩
theorem kP (s : TStore) (id : Int) (hl : s.fFiles.length ≤ 4300000) : FnC Tryz.prog 67 [bG s, oi id] (oi (ixF id s.fFiles)) := by
 refine ent Tryz.func67 rfl Tryz.call67 rfl (fun C => ?_); simp only [go_sem, st0, Tryz.ntmps67]
 refine aD ?_
 refine aY (α := Nat) (fun k => [(5, oi k)]) (fun _ => []) (fun k => k ≤ s.fFiles.length ∧ ixF id s.fFiles = idxP (fun f => decide (f.fID = id)) (s.fFiles.drop k) k) (fun k => s.fFiles.length - k) 0 (fun _ => ?_) ?_ ?_ (fun k hk => ?_)
 ·simp only [go_sem]
 ·simp only [go_sem]; simp
 ·simp [ixF]
 ·obtain ⟨hk, hq⟩ := hk
  simp only [go_sem]
  refine aD ?_
  refine cnd rfl (fun h => ?_) (fun h => ?_)
  ·simp only [decide_eq_true_eq, Int.ofNat_lt] at h
   have hd := List.drop_eq_getElem_cons h
   rw [hd, idxP] at hq
   by_cases h2 : s.fFiles[k].fID = id
   ·rw [if_pos (by simp [h2])] at hq
    have q0 := @h; have q1 := @h2; have q2 := @decide_true; refine jQ ?_
    exact aA ⟨⟨_, rfl, by simp only [go_sem, hq]⟩, trivial⟩
   ·rw [if_neg (by simp [h2])] at hq
    have q0 := @h; have q1 := @h2; have q2 := @decide_false; refine jQ ?_
    refine aF (k + 1) ?_ ?_ ?_
    ·simp only [go_sem]; simp
    ·rw [hq]; exact ⟨h, by simp⟩
    ·omega
  ·simp only [decide_eq_false_iff_not] at h
   have e : k = s.fFiles.length := by omega
   subst e
   simp only [List.drop_length, idxP] at hq
   refine aD ?_
   exact aA ⟨⟨_, rfl, by simp only [go_sem, hq]⟩, trivial⟩
theorem a7m (s : TStore) (id : Int) (h : aJ s ≤ 4300000) : FnC Tryz.prog 72 [bG s, oi id] (.t [(true, (a2P (jP id s.fFiles)).cells), (false, [.d (bv (decide (0 ≤ ixF id s.fFiles)))])]) := by
 have hl : s.fFiles.length ≤ 4300000 := by unfold aJ eF at h; omega
 refine ent Tryz.func72 rfl Tryz.call72 rfl (fun C => ?_); simp only [go_sem, st0, Tryz.ntmps72]
 rcases ixF_cases id s.fFiles with e | ⟨p, e, hp, _⟩
 ·have e1 := a2Z e
  have hz : ¬ (0 : Int) ≤ -1 := by omega
  have hk := a0O s id hl
  rw [e] at hk
  have q0 := @hz; have q1 := @decide_false; refine zS hk ?_
  exact aA ⟨⟨_, rfl, by simp only [go_sem, e, e1, hz, decide_false, zF, List.map_nil]; try simp⟩, by simp [cK]⟩
 ·have e1 := a0N e hp
  have hz : (0 : Int) ≤ (p : Int) := by omega
  have hw := dD bA s.fFiles hp
  have hx : s.fFiles[p].fAttrs.length ≤ 4300000 := by
   have e : s.fFiles[p].fAttrs.length ≤ bA s.fFiles[p] := by unfold bA eT; omega
   unfold aJ eF at h; omega
  have hk := a0O s id hl
  rw [e] at hk
  have q0 := @hz; have q1 := @hp; have q2 := @decide_true; have q3 := @Int.toNat_natCast; refine a2G hk (a4F s.fFiles[p] hx) ?_
  exact aA ⟨⟨_, rfl, by simp only [go_sem, e, e1, hz, decide_true]; try simp⟩, by simp [cK]⟩
theorem a7n (s : TStore) (id : Int) (h : aJ s ≤ 4300000) : FnC Tryz.prog 85 [bG s, oi id] (.t [(true, (a2P (jP id s.fFiles)).cells), (false, [.d (bv (decide (0 ≤ ixF id s.fFiles)))])]) := by
 have hl : s.fFiles.length ≤ 4300000 := by unfold aJ eF at h; omega
 refine ent Tryz.func85 rfl Tryz.call85 rfl (fun C => ?_); simp only [go_sem, st0, Tryz.ntmps85]
 rcases ixF_cases id s.fFiles with e | ⟨p, e, hp, _⟩
 ·have e1 := a2Z e
  have hz : ¬ (0 : Int) ≤ -1 := by omega
  have hy : (-1 : Int) < 0 := by omega
  have hk := kP s id hl
  rw [e] at hk
  have q0 := @hy; have q1 := @decide_true; refine zS hk ?_
  exact aA ⟨⟨_, rfl, by simp only [go_sem, e, e1, hz, decide_false, zF, List.map_nil]; try simp⟩, by simp [cK]⟩
 ·have e1 := a0N e hp
  have hz : (0 : Int) ≤ (p : Int) := by omega
  have hy : ¬ (p : Int) < 0 := by omega
  have hw := dD bA s.fFiles hp
  have hx : s.fFiles[p].fAttrs.length ≤ 4300000 := by
   have e : s.fFiles[p].fAttrs.length ≤ bA s.fFiles[p] := by unfold bA eT; omega
   unfold aJ eF at h; omega
  have hk := kP s id hl
  rw [e] at hk
  have q0 := @hy; have q1 := @hp; have q2 := @decide_false; have q3 := @Int.toNat_natCast; refine a2G hk (mR s.fFiles[p] hx) ?_
  exact aA ⟨⟨_, rfl, by simp only [go_sem, e, e1, hz, decide_true]; try simp⟩, by simp [cK]⟩
theorem a3a (s : TStore) (f : TFile) (hs : aJ s ≤ 4300000) (hf : bA f ≤ 4300000) : FnC Tryz.prog 110 [bG s, iM f] (.t [(true, (a0J (repS s f)).cells), (false, [.d (bv (uO s f))])]) := by
 have h1 : bH s.fSchema ≤ 4300000 := by unfold aJ at hs; omega
 have h2 : s.fFiles.length ≤ 4300000 := by unfold aJ eF at hs; omega
 have h3 : f.fAttrs.length ≤ 4300000 := by unfold bA eT at hf; omega
 have hk := kP s f.fID h2
 refine ent Tryz.func110 rfl Tryz.call110 rfl (fun C => ?_); simp only [go_sem, st0, Tryz.ntmps110]
 cases hv : bD s
 ·have e : uO s f = false := by simp [uO, hv]
  have qH := @hv; repeat' (with_reducible first | refine nY ?_ | (refine mX ?_; try simp only [go_sem, qH]) | refine kD ?_ | refine rD ?_ | refine cP (jY s hs) ?_ | refine vR hk ?_ | refine vD hk ?_ | refine vR (aV s hs) ?_ | refine vD (aV s hs) ?_ | refine aO ?_ | fail)
  exact aA ⟨⟨_, rfl, by simp only [go_sem, repS, e]; try simp⟩, by simp [cK]⟩
 rcases ixF_cases f.fID s.fFiles with ei | ⟨p, ei, hp, _⟩
 ·have e : uO s f = false := by simp [uO, ei]
  have hy : (-1 : Int) < 0 := by omega
  rw [ei] at hk
  have qH := aI @hv (aI @hy @decide_true); repeat' (with_reducible first | refine nY ?_ | (refine mX ?_; try simp only [go_sem, qH]) | refine kD ?_ | refine rD ?_ | refine cP (jY s hs) ?_ | refine vR hk ?_ | refine vD hk ?_ | refine vR (aV s hs) ?_ | refine vD (aV s hs) ?_ | refine aO ?_ | fail)
  exact aA ⟨⟨_, rfl, by simp only [go_sem, repS, e]; try simp⟩, by simp [cK]⟩
 have hy : ¬ (p : Int) < 0 := by omega
 rw [ei] at hk
 cases ho : dS s.fSchema f
 ·have e : uO s f = false := by simp [uO, ho]
  have qH := aI @hv (aI @hy (aI @ho @decide_false)); repeat' (with_reducible first | refine nY ?_ | (refine mX ?_; try simp only [go_sem, qH]) | refine kD ?_ | refine rD ?_ | refine cP (jY s hs) ?_ | refine vR hk ?_ | refine vD hk ?_ | refine vR (aV s hs) ?_ | refine vD (aV s hs) ?_ | refine vR (eX s.fSchema f h1 hf) ?_ | refine vD (eX s.fSchema f h1 hf) ?_ | refine aO ?_ | fail)
  exact aA ⟨⟨_, rfl, by simp only [go_sem, repS, e]; try simp⟩, by simp [cK]⟩
 ·have e : uO s f = true := by simp [uO, hv, ei, ho]
  have qH := aI @hv (aI @hy (aI @ho (aI @hp (aI @decide_false (aI @Int.toNat_natCast @b2o))))); repeat' (with_reducible first | refine nY ?_ | (refine mX ?_; try simp only [go_sem, qH]) | refine kD ?_ | (apply rE [4,6] [] [0,1,2,3] [0,1,2,3] ((.c 4 [5] [0,1,2,5] (.c 6 [] [] .n .n) .n)) (by simp only [go_sem]; rfl) (by simp only [go_sem]; rfl) (by simp only [go_sem]; rfl) (by decide +kernel); (focus simp only [go_sem]; done)) | exact bJ | refine aP (uX ?_) ?_ | refine aQ (aX ?_) ?_ | refine aR (aX ?_) ?_ | exact bY | exact oH | exact uB | refine rD ?_ | refine cP (jY s hs) ?_ | refine vR hk ?_ | refine vG hk ?_ | refine vR (aV s hs) ?_ | refine vG (aV s hs) ?_ | refine vR (eX s.fSchema f h1 hf) ?_ | refine vG (eX s.fSchema f h1 hf) ?_ | refine cP (mR f h3) ?_ | refine aO ?_ | fail)
  exact aA ⟨⟨_, rfl, by simp only [go_sem, repS, e, ei, Int.toNat_natCast, if_true, List.map_set]; try simp [bW]⟩, by simp [cK]⟩
theorem a2d (l : List TFile) : ∀ r ∈ l.map bW, r.length = 5 := by intro r hr; obtain ⟨x, _, rfl⟩ := List.mem_map.1 hr; rfl
theorem a3K (s : TStore) (id : Int) (hs : aJ s ≤ 4300000) : FnC Tryz.prog 106 [bG s, oi id] (.t [(true, (bG (delS s id)).cells), (false, [.d (bv (pG s id))])]) := by
 have h2 : s.fFiles.length ≤ 4300000 := by unfold aJ eF at hs; omega
 have hk := kP s id h2
 have hcp : FnC Tryz.prog 134 [bG s] (bG s) := (jY s hs).pu (by simp only [go_sem, and_self])
 refine ent Tryz.func106 rfl Tryz.call106 rfl (fun C => ?_); simp only [go_sem, st0, Tryz.ntmps106]
 cases hv : bD s
 ·have e : pG s id = false := by simp [pG, hv]
  have q0 := @hv; refine b6X hcp hk (aV s hs) ?_
  exact aA ⟨⟨_, rfl, by simp only [go_sem, delS, e]; try simp⟩, by simp [cK]⟩
 rcases ixF_cases id s.fFiles with ei | ⟨p, ei, hp, _⟩
 ·have e : pG s id = false := by simp [pG, ei]
  have hy : (-1 : Int) < 0 := by omega
  rw [ei] at hk
  have q0 := @hv; have q1 := @hy; have q2 := @decide_true; refine b8k hcp hk (aV s hs) ?_
  exact aA ⟨⟨_, rfl, by simp only [go_sem, delS, e]; try simp⟩, by simp [cK]⟩
 ·have hy : ¬ (p : Int) < 0 := by omega
  rw [ei] at hk
  have e : pG s id = true := by simp [pG, hv, ei]
  have hpn : ((p : Int) + 1).toNat = p + 1 := by omega
  have hT : List.take s.fFiles.length (List.map bW s.fFiles) = List.map bW s.fFiles := List.take_of_length_le (by simp)
  have hTk : List.take p (List.map bW s.fFiles) = (s.fFiles.take p).map bW := List.map_take.symm
  have hDp : List.drop (p + 1) (List.map bW s.fFiles) = (s.fFiles.drop (p + 1)).map bW := List.map_drop.symm
  have qH := aI @hv (aI @hy (aI @hp (aI @hpn (aI @hT (aI @hTk (aI @hDp (aI @nG (aI @nH (aI @xD (aI @decide_false (aI @Int.toNat_natCast @b2o))))))))))); repeat' (with_reducible first | refine nY ?_ | (refine mX ?_; try simp only [go_sem, qH]) | refine kD ?_ | (apply rE [0,5,11,13] [] [1,2,3,4,6,7,8,9,10] [1,2,3,4,6,7,8,9,10] ((.c 0 [] [1,2,3,4,6,7,8,9,10] (.c 5 [] [6,7,8,9,10] (.c 11 [12] [12] (.c 13 [] [] .n .n) .n) .n) .n)) (by simp only [go_sem]; rfl) (by simp only [go_sem]; rfl) (by simp only [go_sem]; rfl) (by decide +kernel); (focus simp only [go_sem]; done)) | exact bJ | refine aP (uX ?_) ?_ | refine aQ (aX ?_) ?_ | refine aR (aX ?_) ?_ | exact bY | exact oH | (refine uA ?_; simp only [go_sem, qH]; (repeat' first | omega | exact a2d _ | refine And.intro ?_ ?_); done) | refine rD ?_ | refine And.intro (a2d _) ?_ | refine cP hcp ?_ | refine cP hk ?_ | refine cP (aV s hs) ?_ | refine aO ?_ | fail)
  first | refine jH (Sees.frz 4 rfl) ?_ | refine jH (Sees.frz 3 rfl) ?_ | refine jH (Sees.frz 2 rfl) ?_
  simp only [go_sem]
  exact aA ⟨⟨_, rfl, by simp only [go_sem, delS, e, ei, Int.toNat_natCast, if_true, kZ, List.map_append]; try simp⟩, by simp [cK]⟩
@[go_sem] def a3b (x : TStore) : SV := .g [.d (.sl (x.fSchema.map dA)), .m 69 5 (x.fFiles.map bW), .d (iv x.fNextID)]
theorem a3c (s : TStore) (id : Int) (hs : aJ s ≤ 4300000) (hd : pG s id = true) : FnC Tryz.prog 106 [bG s, oi id] (.t [(true, (a3b (delS s id)).cells), (false, [.d (bv true)])]) := by
 have h2 : s.fFiles.length ≤ 4300000 := by unfold aJ eF at hs; omega
 have hk := kP s id h2
 have hcp : FnC Tryz.prog 134 [bG s] (bG s) := (jY s hs).pu (by simp only [go_sem, and_self])
 have hv : bD s = true := by unfold pG at hd; rw [Bool.and_eq_true] at hd; exact hd.1
 rcases ixF_cases id s.fFiles with ei | ⟨p, ei, hp, _⟩
 ·unfold pG at hd
  rw [ei] at hd
  simp at hd
 ·refine ent Tryz.func106 rfl Tryz.call106 rfl (fun C => ?_); simp only [go_sem, st0, Tryz.ntmps106]
  have hy : ¬ (p : Int) < 0 := by omega
  rw [ei] at hk
  have hpn : ((p : Int) + 1).toNat = p + 1 := by omega
  have hT : List.take s.fFiles.length (List.map bW s.fFiles) = List.map bW s.fFiles := List.take_of_length_le (by simp)
  have hTk : List.take p (List.map bW s.fFiles) = (s.fFiles.take p).map bW := List.map_take.symm
  have hDp : List.drop (p + 1) (List.map bW s.fFiles) = (s.fFiles.drop (p + 1)).map bW := List.map_drop.symm
  have qH := aI @hv (aI @hy (aI @hp (aI @hpn (aI @hT (aI @hTk (aI @hDp (aI @nG (aI @nH (aI @xD (aI @decide_false (aI @Int.toNat_natCast @b2o))))))))))); repeat' (with_reducible first | refine nY ?_ | (refine mX ?_; try simp only [go_sem, qH]) | refine kD ?_ | (apply rE [0,5,11,13] [] [1,2,3,4,6,7,8,9,10] [1,2,3,4,6,7,8,9,10] ((.c 0 [] [1,2,3,4,6,7,8,9,10] (.c 5 [] [6,7,8,9,10] (.c 11 [12] [12] (.c 13 [] [] .n .n) .n) .n) .n)) (by simp only [go_sem]; rfl) (by simp only [go_sem]; rfl) (by simp only [go_sem]; rfl) (by decide +kernel); (focus simp only [go_sem]; done)) | exact bJ | refine aP (uX ?_) ?_ | refine aQ (aX ?_) ?_ | refine aR (aX ?_) ?_ | exact bY | exact oH | (refine uA ?_; simp only [go_sem, qH]; (repeat' first | omega | exact a2d _ | refine And.intro ?_ ?_); done) | refine rD ?_ | refine And.intro (a2d _) ?_ | refine cP hcp ?_ | refine cP hk ?_ | refine cP (aV s hs) ?_ | refine aO ?_ | fail)
  exact aA ⟨⟨_, rfl, by simp only [go_sem, delS, hd, ei, Int.toNat_natCast, if_true, kZ, List.map_append]; try simp⟩, by simp [cK]⟩
theorem a1j : FnC Tryz.prog 103 [] (.o (.w 113 2 (usual.map dA))) := by
 refine ent Tryz.func103 rfl Tryz.call103 rfl (fun C => ?_); simp only [go_sem, st0, Tryz.ntmps103]
 refine aD ?_
 exact aA ⟨⟨_, rfl, by simp only [go_sem, usual, List.map_cons, List.map_nil]⟩, trivial⟩
theorem a6W (s : List TField) (hs : s.length ≤ 1048576) : FnC Tryz.prog 102 [.o (.d (.sl (s.map dA)))] (a0J ⟨s, [], 1⟩) := by
 have hl1 : s.length ≤ 140737488355328 := by omega
 have hl2 : s.length * 24 ≤ 140737488355328 := by omega
 refine ent Tryz.func102 rfl Tryz.call102 rfl (fun C => ?_); simp only [go_sem, st0, Tryz.ntmps102]
 have q0 := @hl1; have q1 := @hl2; refine fM ?_
 exact aA ⟨⟨_, rfl, by simp only [go_sem, List.map_nil]⟩, trivial⟩
structure storeD (k : Nat) (s : TStore) : Prop where
 sch : s.fSchema = usual
 ok : bD s = true
 nx : s.fNextID ≤ 1 + k
 ln : s.fFiles.length ≤ k
 fl : ∀ f ∈ s.fFiles, ∃ id, fileD id f
theorem b2w : okSchema usual = true := by decide +kernel
theorem b2x {id : Int} {f : TFile} (h : fileD id f) (k : Int) (hk : 1 ≤ k ∧ k ≤ 60) : dS usual { f with fID := k } = true := by
 obtain ⟨a, b, n, t, e, h1, h2, h3, h4⟩ := h.at_
 have h0 := b5S h1 h2 h3 h4
 unfold dS
 simp only [e, h0, b2w, Bool.true_and, Bool.and_true, inB, Bool.and_eq_true, decide_eq_true_eq]
 exact ⟨hk, h.ow, h.lk⟩
theorem a8K : storeD 0 ⟨usual, [], 1⟩ := ⟨rfl, by decide +kernel, by simp, by simp, fun f hf => by simp at hf⟩
theorem a2K {k : Nat} {s : TStore} {id : Int} {f : TFile} (h : storeD k s) (hf : fileD id f) (hk : k ≤ 40) (hl : s.fFiles.length < 12) : lN s f = true ∧ storeD (k + 1) (creS s f) ∧ (creS s f).fFiles.length = s.fFiles.length + 1 := by
 have hb := fE.1 h.ok
 have h1 := h.nx
 have hok : lN s f = true := a4E.2 ⟨h.ok, hl, by rw [h.sch]; exact b2x hf s.fNextID (by omega)⟩
 have hs := b6m hok
 refine ⟨hok, ⟨?_, hs, ?_, ?_, ?_⟩, ?_⟩
 ·unfold creS; rw [if_pos hok]; exact h.sch
 ·unfold creS; rw [if_pos hok]; simp only; omega
 ·unfold creS; rw [if_pos hok]; have := h.ln; simp; omega
 ·unfold creS; rw [if_pos hok]
  intro x hx
  rcases List.mem_append.1 hx with hx | hx
  ·exact h.fl x hx
  ·simp only [List.mem_singleton] at hx
   subst hx
   exact ⟨s.fNextID, rfl, hf.ow, hf.lk, hf.at_⟩
 ·unfold creS; rw [if_pos hok]; simp
theorem zU {α : Type} (w : α → Nat) (c : Nat) : ∀ (l : List α), (∀ x ∈ l, w x ≤ c) → bI w l ≤ l.length * c
 | [], _ => by simp [bI]
 | x :: l, h => by
  have h1 := h x List.mem_cons_self
  have h2 := zU w c l fun y hy => h y (List.mem_cons_of_mem _ hy)
  simp only [bI, List.length_cons, Nat.add_mul]
  omega
theorem vT {k : Nat} {s : TStore} (h : storeD k s) : aJ s ≤ 600 := by
 have hl : s.fFiles.length ≤ 12 := (fE.1 h.ok).2.2.1
 have h1 := zU bA 40 s.fFiles fun f hf => by obtain ⟨id, hd⟩ := h.fl f hf; exact (wP hd).1
 have h2 : bH usual = 8 := by decide +kernel
 unfold aJ eF
 rw [h.sch, h2]
 omega
theorem a5G : FnC Tryz.prog 102 [.o (.d (.sl (usual.map dA)))] (a3b ⟨usual, [], 1⟩) :=
 (a6W usual (by decide)).re [0] rfl rfl (by simp only [go_sem, and_self]) (by simp only [go_sem]; try simp) trivial
theorem vU (s : TStore) (f : TFile) (hs : aJ s ≤ 4300000) (hf : bA f ≤ 4300000) : FnC Tryz.prog 104 [bG s, iM f] (.t [(true, (a3b (creS s f)).cells), (false, [.d (iv (a8S s f))]), (false, [.d (bv (lN s f))])]) :=
 (xO s f hs hf).re [0] rfl rfl (by simp only [go_sem, and_self]) (by simp only [go_sem]; try simp) rfl
theorem b4p {k : Nat} {s : TStore} (h : storeD k s) (h1 : 1 < s.fFiles.length) : pG s s.fFiles[1].fID = true := by
 unfold pG
 rw [h.ok, Bool.true_and, decide_eq_true_eq]
 rcases idxP_spec (fun f : TFile => decide (f.fID = s.fFiles[1].fID)) s.fFiles 0 with ⟨_, e⟩ | ⟨k0, e, _⟩
 ·have := e s.fFiles[1] (List.getElem_mem h1)
  simp at this
 ·unfold ixF; rw [e]; omega
theorem a2L (s : TStore) (f : TFile) (hs : aJ s ≤ 4300000) (hf : bA f ≤ 4300000) : FnC Tryz.prog 104 [bG s, iM f] (.t [(true, (bG (creS s f)).cells), (false, [.d (iv (a8S s f))]), (false, [.d (bv (lN s f))])]) := (xO s f hs hf).pu (by simp only [go_sem, and_self])
theorem a8L {k : Nat} {s : TStore} (id : Int) (h : storeD k s) : storeD k (delS s id) := by
 unfold delS
 split
 ·rename_i hd
  have h1 := b6o hd
  unfold delS at h1
  rw [if_pos hd] at h1
  refine ⟨h.sch, h1, h.nx, ?_, fun f hf => ?_⟩
  ·have h2 := h.ln
   simp only [kZ, List.length_append, List.length_take, List.length_drop]
   omega
  ·simp only [kZ, List.mem_append] at hf
   rcases hf with hf | hf
   ·exact h.fl f (List.mem_of_mem_take hf)
   ·exact h.fl f (List.mem_of_mem_drop hf)
 ·exact h
theorem a4y {k m : Nat} {s : TStore} (h : storeD k s) (hk : k ≤ m) : storeD m s := ⟨h.sch, h.ok, by have := h.nx; omega, by have := h.ln; omega, h.fl⟩
theorem qI {l : List Int} (hl : iT l) : Drw l 57 [] (fun s : TStore => storeD 7 s) (fun s => a3b s) := by
 have hu := a5G
 have h0 : FnC Tryz.prog 103 [] (.o (.d (.sl (usual.map dA)))) := a1j.pu (by simp only [go_sem, and_self])
 intro i h hi hh; refine rY Tryz.func57 rfl Tryz.call57 rfl (fun C b => ?_); simp only [go_sem, Tryz.ntmps57]
 refine b5M h0 hu ?_
 refine aY (α := Nat × TStore × Nat × Int) (fun x => [(4, oi x.1), (6, .o .u)]) (fun x => [(0, .pin b 97 [.sl (l.map rX), iv x.2.2.1, iv x.2.2.2]), (3, .box 27 [.d (.sl (x.2.1.fSchema.map dA)), .s 2, .d (iv x.2.1.fNextID)]), (2, .row 69 5 (x.2.1.fFiles.map bW) false)]) (fun x => (x.1 ≤ 7 ∧ storeD x.1 x.2.1) ∧ (x.2.2.1 ≤ l.length ∧ inR .i64 x.2.2.2)) (fun x => 8 - x.1) (0, ⟨usual, [], 1⟩, i, h) (fun _ => ?_) ?_ ?_ (fun x hx => ?_)
 ·simp only [go_sem]
 ·simp only [go_sem]; simp
 ·exact ⟨⟨Nat.zero_le _, a8K⟩, hi, hh⟩
 ·clear hi hh
  obtain ⟨k, s, i, h⟩ := x
  obtain ⟨⟨k7, hs⟩, hi, hh⟩ := hx
  simp only at k7 hs hi hh
  have hlen := hs.ln
  have hw := vT hs
  simp only [go_sem]
  refine aD ?_
  first | (refine bE (aH hl 7 (by decide) (by decide) i h hi hh) ⟨rfl, rfl⟩ ?_ rfl ?_; (focus first | rfl | (simp only [go_sem]; done))) | (refine hZ (aH hl 7 (by decide) (by decide) i h hi hh) ⟨rfl, rfl⟩ ?_ rfl ?_; (focus first | rfl | (simp only [go_sem]; done)))
  clear hi hh; rintro ⟨x, i, h⟩ ⟨hx, hi, hh⟩; simp only at hx hi hh; simp only [go_sem]
  refine aD ?_
  refine cnd rfl (fun hlt => ?_) (fun hlt => ?_)
  ·simp only [decide_eq_true_eq] at hlt
   have qH := trivial; repeat' (with_reducible first | refine nY ?_ | (refine mX ?_; try simp only [go_sem]) | refine kD ?_ | (apply rF [2,3,8] [] [0,1] [0,1] ((.c 2 [] [0] (.c 3 [4,5,6,7] [4,5,6,7] (.c 8 [] [6,7] .n .n) .n) .n)) (by simp only [go_sem]; rfl) (by simp only [go_sem]; rfl) (by simp only [go_sem]; rfl) (by decide +kernel); (focus simp only [go_sem]; done)) | exact bJ | refine aP (uX ?_) ?_ | refine aQ (aX ?_) ?_ | refine aR (aX ?_) ?_ | exact bY | exact oH | (refine uA ?_; simp only [go_sem]; (repeat' first | omega | refine And.intro ?_ ?_); done) | refine rD ?_ | refine aO ?_ | fail)
   first | (refine bE (jA hl 1 i h hi hh) ⟨rfl, rfl⟩ ?_ rfl ?_; (focus first | rfl | (simp only [go_sem]; done))) | (refine hZ (jA hl 1 i h hi hh) ⟨rfl, rfl⟩ ?_ rfl ?_; (focus first | rfl | (simp only [go_sem]; done)))
   clear hi hh; rintro ⟨f, i, h⟩ ⟨hf, hi, hh⟩; simp only at hf hi hh; simp only [go_sem]
   have hfw := (wP hf).1
   obtain ⟨hc1, hc2, hc3⟩ := a2K hs hf (by omega) (by omega)
   have hcr := vU s f (by omega) (by omega)
   rw [hc1] at hcr
   generalize creS s f = s2 at *
   have qH := trivial; repeat' (with_reducible first | refine nY ?_ | (refine mX ?_; try simp only [go_sem]) | refine kD ?_ | exact bJ | refine aP (uX ?_) ?_ | refine aQ (aX ?_) ?_ | refine aR (aX ?_) ?_ | (refine uA ?_; simp only [go_sem]; (repeat' first | omega | refine And.intro ?_ ?_); done) | refine rD ?_ | refine cP hcr ?_ | refine aO ?_ | fail)
   refine nL [(2, 5)] (k + 1, s2, i, h) (by simp only [go_sem]; rfl) ?_ ?_ ?_
   ·simp only [go_sem]; simp
   ·exact ⟨⟨by simp only; omega, hc2⟩, hi, hh⟩
   ·simp only; omega
  ·clear hlt
   have hs7 := a4y hs k7
   by_cases g2 : 2 < s.fFiles.length
   ·have g2i : ((2 : Int) < (s.fFiles.length : Int)) = True := by simp; omega
    have q0 := @g2i; have q1 := @decide_true; refine fM ?_
    first | (refine bE (eY hl 3 (by decide) (by decide) i h hi hh) ⟨rfl, rfl⟩ ?_ rfl ?_; (focus first | rfl | (simp only [go_sem]; done))) | (refine hZ (eY hl 3 (by decide) (by decide) i h hi hh) ⟨rfl, rfl⟩ ?_ rfl ?_; (focus first | rfl | (simp only [go_sem]; done)))
    clear hi hh; rintro ⟨c1, i, h⟩ ⟨q1, hi, hh⟩; simp only at q1 hi hh; simp only [go_sem]
    cases c1
    ·refine aD ?_
     exact aN (s, i, h) ⟨⟨_, rfl, by simp only [go_sem]⟩, trivial⟩ ⟨hs7, ⟨hi, hh⟩⟩ (by simp only [go_sem])
    ·have g1 : 1 < s.fFiles.length := by omega
     have hdl := a3c s s.fFiles[1].fID (by omega) (b4p hs g1)
     have hsd := a8L s.fFiles[1].fID hs7
     generalize delS s s.fFiles[1].fID = s2 at *
     have qH := @g1; repeat' (with_reducible first | refine nY ?_ | (refine mX ?_; try simp only [go_sem, qH]) | refine kD ?_ | (apply rE [6,10] [] [0,1,2,3,4,5] [0,1,2,3,4,5] ((.c 6 [7,8,9] [7,8,9] (.c 10 [] [9] .n .n) .n)) (by simp only [go_sem]; rfl) (by simp only [go_sem]; rfl) (by simp only [go_sem]; rfl) (by decide +kernel); (focus simp only [go_sem]; done)) | exact bJ | refine aP (uX ?_) ?_ | refine aQ (aX ?_) ?_ | refine aR (aX ?_) ?_ | exact bY | exact oH | exact uB | refine rD ?_ | refine cP hdl ?_ | refine aO ?_ | fail)
     exact aN (s2, i, h) ⟨⟨_, rfl, by simp only [go_sem]⟩, trivial⟩ ⟨hsd, ⟨hi, hh⟩⟩ (by simp only [go_sem])
   ·have g2i : ((2 : Int) < (s.fFiles.length : Int)) = False := by simp; omega
    have q0 := @g2i; have q1 := @decide_false; refine fM ?_
    exact aN (s, i, h) ⟨⟨_, rfl, by simp only [go_sem]⟩, trivial⟩ ⟨hs7, ⟨hi, hh⟩⟩ (by simp only [go_sem])
end Go.Proofs.YtakopfjdmmnjcaaGreat
end
