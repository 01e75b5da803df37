/- Joined texts. -/
import Derived.Test.YtolgdibgnndoaaaGreatZ08
import Derived.Test.YtolgdibgnndoaaaGreatZ09
import Derived.Test.YtolgdibgnndoaaaGreatZ11
import Derived.Test.YtolgdibgnndoaaaGreatZ06
import Derived.Test.YtolgdibgnndoaaaGreatZ07
import Derived.Ground.NamesProg
import Derived.Ground.Names2Prog
import Derived.Shelf.Sort.Plain
import Derived.Shelf.Slices.In.SortNone
import Derived.Shelf.Slices.CompactI
import Derived.Shelf.Slices.CompactS
import Derived.Test.YtolgdibgnndoaaaGreatProg
import Derived.Shelf.SlGeneric
import Derived.Shelf.SlSortCmp.KitK
import Derived.Shelf.SlicesQ.IndexFunc
import Derived.Ground.SlsfProg
import Derived.Ground.SlgfProg
set_option linter.all false
section
set_option maxRecDepth 100000
set_option maxHeartbeats 4000000
namespace Go.Proofs.YtolgdibgnndoaaaGreat
open Go Go.Sx Go.RowKit Go.Proofs
def usual : List TField := [⟨⟨#[97]⟩, 1⟩, ⟨⟨#[98]⟩, 1⟩, ⟨⟨#[110]⟩, 2⟩, ⟨⟨#[116]⟩, 2⟩]
def pc (s : ByteArray) : Option TValue → List TAttr
 | none => []
 | some v => [⟨s, v⟩]
def pcs (a b n t : Option TValue) : List TAttr := pc ⟨#[97]⟩ a ++ (pc ⟨#[98]⟩ b ++ (pc ⟨#[110]⟩ n ++ pc ⟨#[116]⟩ t))
theorem a4N : fM ⟨#[97]⟩ ⟨#[98]⟩ = true := by decide +kernel
theorem a4O : fM ⟨#[97]⟩ ⟨#[110]⟩ = true := by decide +kernel
theorem a4P : fM ⟨#[97]⟩ ⟨#[116]⟩ = true := by decide +kernel
theorem a4Q : fM ⟨#[98]⟩ ⟨#[110]⟩ = true := by decide +kernel
theorem a4R : fM ⟨#[98]⟩ ⟨#[116]⟩ = true := by decide +kernel
theorem a4S : fM ⟨#[110]⟩ ⟨#[116]⟩ = true := by decide +kernel
theorem b3H (x : Int) : rW ⟨#[97]⟩ ⟨1, x, ⟨#[]⟩⟩ (pcs none none none none) = pcs (some ⟨1, x, ⟨#[]⟩⟩) none none none := by
 simp [rW, mF, isName, dW, kL, iP, pcs, pc]
theorem b3I (x : Int) (a : Option TValue) : rW ⟨#[98]⟩ ⟨1, x, ⟨#[]⟩⟩ (pcs a none none none) = pcs a (some ⟨1, x, ⟨#[]⟩⟩) none none := by
 cases a <;> simp [rW, mF, isName, dW, kL, iP, pcs, pc, a4N]
theorem b3J (s : ByteArray) (a b : Option TValue) : rW ⟨#[110]⟩ ⟨2, 0, s⟩ (pcs a b none none) = pcs a b (some ⟨2, 0, s⟩) none := by
 cases a <;> cases b <;> simp [rW, mF, isName, dW, kL, iP, pcs, pc, a4O, a4Q]
theorem b3K (s : ByteArray) (a b n : Option TValue) : rW ⟨#[116]⟩ ⟨2, 0, s⟩ (pcs a b n none) = pcs a b n (some ⟨2, 0, s⟩) := by
 cases a <;> cases b <;> cases n <;> simp [rW, mF, isName, dW, kL, iP, pcs, pc, a4P, a4R, a4S]
def a1Q (o : Option TValue) : Prop := ∀ v, o = some v → ∃ x, v = ⟨1, x, ⟨#[]⟩⟩ ∧ 0 ≤ x ∧ x ≤ 999
def words : List ByteArray := [⟨#[105, 110, 107]⟩, ⟨#[115, 101, 97]⟩, ⟨#[114, 101, 100]⟩, ⟨#[98, 108, 117, 101]⟩]
def a1R (o : Option TValue) : Prop := ∀ v, o = some v → ∃ s, v = ⟨2, 0, s⟩ ∧ s ∈ words
theorem a0E : a1Q none := fun v h => by cases h
theorem a0F : a1R none := fun v h => by cases h
theorem a4T {x : Int} (h : 0 ≤ x ∧ x ≤ 999) : a1Q (some ⟨1, x, ⟨#[]⟩⟩) := fun v e => by cases e; exact ⟨x, rfl, h⟩
theorem a4U {s : ByteArray} (h : s ∈ words) : a1R (some ⟨2, 0, s⟩) := fun v e => by cases e; exact ⟨s, rfl, h⟩
structure fileD (id : Int) (f : TFile) : Prop where
 id : f.fID = id
 ow : 0 ≤ f.fOwner ∧ f.fOwner ≤ 2
 lk : 0 ≤ f.fLink ∧ f.fLink ≤ 60
 at_ : ∃ a b n t, f.fAttrs = pcs a b n t ∧ a1Q a ∧ a1Q b ∧ a1R n ∧ a1R t
theorem a6Y {s : ByteArray} (h : s ∈ words) : fD ⟨2, 0, s⟩ = true ∧ s.size ≤ 4 ∧ s ≠ ⟨#[122, 122]⟩ := by
 have := (by decide +kernel : ∀ s ∈ words, fD ⟨2, 0, s⟩ = true ∧ s.size ≤ 4 ∧ s ≠ ⟨#[122, 122]⟩)
 exact this s h
theorem b2v {x : Int} (h : 0 ≤ x ∧ x ≤ 999) : fD ⟨1, x, ⟨#[]⟩⟩ = true := by
 unfold fD
 simp [inB, h.1, h.2]
theorem b1d (x : Int) (h : 0 ≤ x ∧ x ≤ 999) : jI usual ⟨#[97]⟩ ⟨1, x, ⟨#[]⟩⟩ = true ∧ jI usual ⟨#[98]⟩ ⟨1, x, ⟨#[]⟩⟩ = true := by
 unfold jI
 rw [b2v h]
 exact ⟨rfl, rfl⟩
theorem b1e (s : ByteArray) (h : s ∈ words) : jI usual ⟨#[110]⟩ ⟨2, 0, s⟩ = true ∧ jI usual ⟨#[116]⟩ ⟨2, 0, s⟩ = true := by
 unfold jI
 rw [(a6Y h).1]
 exact ⟨rfl, rfl⟩
theorem b2w {a b n t : Option TValue} (ha : a1Q a) (hb : a1Q b) (hn : a1R n) (ht : a1R t) : (List.range (pcs a b n t).length).all (fE usual (pcs a b n t)) = true := by
 have key : ∀ {x : Option TValue}, a1Q x → x = none ∨ ∃ k, x = some ⟨1, k, ⟨#[]⟩⟩ ∧ 0 ≤ k ∧ k ≤ 999 := fun {x} h => by
  cases x with
  | none => exact .inl rfl
  | some v => obtain ⟨k, rfl, h2⟩ := h v rfl; exact .inr ⟨k, rfl, h2⟩
 have key2 : ∀ {x : Option TValue}, a1R x → x = none ∨ ∃ k, x = some ⟨2, 0, k⟩ ∧ k ∈ words := fun {x} h => by
  cases x with
  | none => exact .inl rfl
  | some v => obtain ⟨k, rfl, h2⟩ := h v rfl; exact .inr ⟨k, rfl, h2⟩
 rw [List.all_eq_true]
 rcases key ha with rfl | ⟨x, rfl, hx⟩ <;> rcases key hb with rfl | ⟨y, rfl, hy⟩ <;> rcases key2 hn with rfl | ⟨p, rfl, hp⟩ <;> rcases key2 ht with rfl | ⟨q, rfl, hq⟩ <;>
  (intro k hk
   rw [List.mem_range] at hk
   simp only [pcs, pc, List.nil_append, List.singleton_append, List.append_nil, List.length_cons, List.length_nil] at hk ⊢
   match k, hk with
   | 0, h0 => first | (exfalso; omega) | (simp [fE, lN, b1d, b1e, a4N, a4O, a4P, a4Q, a4R, a4S, *]; done)
   | 1, h0 => first | (exfalso; omega) | (simp [fE, lN, b1d, b1e, a4N, a4O, a4P, a4Q, a4R, a4S, *]; done)
   | 2, h0 => first | (exfalso; omega) | (simp [fE, lN, b1d, b1e, a4N, a4O, a4P, a4Q, a4R, a4S, *]; done)
   | 3, h0 => first | (exfalso; omega) | (simp [fE, lN, b1d, b1e, a4N, a4O, a4P, a4Q, a4R, a4S, *]; done))
theorem xR {id : Int} {f : TFile} (h : fileD id f) : eF f ≤ 40 ∧ uG f.fAttrs ∧ ∀ a ∈ f.fAttrs, a.fValue.fStr ≠ ⟨#[122, 122]⟩ := by
 obtain ⟨a, b, n, t, e, h1, h2, h3, h4⟩ := h.at_
 have key : ∀ (nm : ByteArray) (x : Option TValue), nm.size = 1 → (a1Q x ∨ a1R x) → (pc nm x).length + dN jU (pc nm x) ≤ 6 ∧ (∀ y ∈ pc nm x, a6j y ∧ y.fValue.fStr ≠ ⟨#[122, 122]⟩) := fun nm x hn hx => by
  cases x with
  | none => exact ⟨by simp [pc, dN], fun y hy => by simp [pc] at hy⟩
  | some v =>
   rcases hx with hx | hx
   ·obtain ⟨k, rfl, h1, h2⟩ := hx v rfl
    refine ⟨by simp [pc, dN, jU, nG, hn]; decide, fun y hy => ?_⟩
    simp [pc] at hy
    subst hy
    exact ⟨⟨by simp only [hn]; omega, in1, by simp only [inR]; omega, Nat.zero_le _⟩, fun q => by have := congrArg ByteArray.size q; simp at this; exact absurd this (by decide)⟩
   ·obtain ⟨s, rfl, hs⟩ := hx v rfl
    obtain ⟨-, h2, h3⟩ := a6Y hs
    refine ⟨by simp [pc, dN, jU, nG, hn]; omega, fun y hy => ?_⟩
    simp [pc] at hy
    subst hy
    exact ⟨⟨by simp only [hn]; omega, in2, in0, by simp only; omega⟩, h3⟩
 have ka := key ⟨#[97]⟩ a rfl (.inl h1)
 have kb := key ⟨#[98]⟩ b rfl (.inl h2)
 have kn := key ⟨#[110]⟩ n rfl (.inr h3)
 have kt := key ⟨#[116]⟩ t rfl (.inr h4)
 have hw : ∀ (l m : List TAttr), dN jU (l ++ m) = dN jU l + dN jU m := fun l m => by
  induction l with
  | nil => simp [dN]
  | cons x l ih => simp only [List.cons_append, dN, ih]; omega
 rw [e]
 refine ⟨?_, ⟨?_, fun y hy => ?_⟩, fun y hy => ?_⟩
 ·unfold eF gT
  rw [e]
  unfold pcs
  simp only [hw, List.length_append]
  omega
 ·unfold pcs
  simp only [List.length_append]
  omega
 ·unfold pcs at hy
  simp only [List.mem_append] at hy
  rcases hy with hy | hy | hy | hy
  ·exact (ka.2 y hy).1
  ·exact (kb.2 y hy).1
  ·exact (kn.2 y hy).1
  ·exact (kt.2 y hy).1
 ·unfold pcs at hy
  simp only [List.mem_append] at hy
  rcases hy with hy | hy | hy | hy
  ·exact (ka.2 y hy).2
  ·exact (kb.2 y hy).2
  ·exact (kn.2 y hy).2
  ·exact (kt.2 y hy).2
structure fileK (fid : Int) (k : Nat) (f : TFile) : Prop where
 id : f.fID = fid
 ow : 0 ≤ f.fOwner ∧ f.fOwner ≤ 2
 lk : 0 ≤ f.fLink ∧ f.fLink ≤ 60
 at_ : ∃ a b n t, f.fAttrs = pcs a b n t ∧ a1Q a ∧ a1Q b ∧ a1R n ∧ a1R t ∧ (k ≤ 0 → a = none) ∧ (k ≤ 1 → b = none) ∧ (k ≤ 2 → n = none) ∧ (k ≤ 3 → t = none)
theorem nZ {fid : Int} {k : Nat} {f : TFile} (h : fileK fid k f) : f.fAttrs.length ≤ 4 := by
 obtain ⟨a, b, n, t, e, _⟩ := h.at_
 rw [e]
 cases a <;> cases b <;> cases n <;> cases t <;> simp [pcs, pc]
theorem xS {fid : Int} {k : Nat} {f : TFile} (h : fileK fid k f) : fileK fid (k + 1) f := by
 obtain ⟨a, b, n, t, e, h1, h2, h3, h4, h5, h6, h7, h8⟩ := h.at_
 exact ⟨h.id, h.ow, h.lk, a, b, n, t, e, h1, h2, h3, h4, fun q => h5 (by omega), fun q => h6 (by omega), fun q => h7 (by omega), fun q => h8 (by omega)⟩
theorem b1f {fid : Int} {f : TFile} (h : fileK fid 0 f) {x : Int} (hx : 0 ≤ x ∧ x ≤ 999) : fileK fid 1 (qZ f ⟨#[97]⟩ ⟨1, x, ⟨#[]⟩⟩) := by
 obtain ⟨a, b, n, t, e, h1, h2, h3, h4, h5, h6, h7, h8⟩ := h.at_
 obtain rfl := h5 (by omega); obtain rfl := h6 (by omega); obtain rfl := h7 (by omega); obtain rfl := h8 (by omega)
 exact ⟨h.id, h.ow, h.lk, _, _, _, _, by simp only [qZ, e]; exact b3H x, a4T hx, h2, h3, h4, fun q => by omega, fun _ => rfl, fun _ => rfl, fun _ => rfl⟩
theorem b1g {fid : Int} {f : TFile} (h : fileK fid 1 f) {x : Int} (hx : 0 ≤ x ∧ x ≤ 999) : fileK fid 2 (qZ f ⟨#[98]⟩ ⟨1, x, ⟨#[]⟩⟩) := by
 obtain ⟨a, b, n, t, e, h1, h2, h3, h4, h5, h6, h7, h8⟩ := h.at_
 obtain rfl := h6 (by omega); obtain rfl := h7 (by omega); obtain rfl := h8 (by omega)
 exact ⟨h.id, h.ow, h.lk, _, _, _, _, by simp only [qZ, e]; exact b3I x a, h1, a4T hx, h3, h4, fun q => by omega, fun q => by omega, fun _ => rfl, fun _ => rfl⟩
theorem b1h {fid : Int} {f : TFile} (h : fileK fid 2 f) {x : ByteArray} (hx : x ∈ words) : fileK fid 3 (qZ f ⟨#[110]⟩ ⟨2, 0, x⟩) := by
 obtain ⟨a, b, n, t, e, h1, h2, h3, h4, h5, h6, h7, h8⟩ := h.at_
 obtain rfl := h7 (by omega); obtain rfl := h8 (by omega)
 exact ⟨h.id, h.ow, h.lk, _, _, _, _, by simp only [qZ, e]; exact b3J x a b, h1, h2, a4U hx, h4, fun q => by omega, fun q => by omega, fun q => by omega, fun _ => rfl⟩
theorem b1i {fid : Int} {f : TFile} (h : fileK fid 3 f) {x : ByteArray} (hx : x ∈ words) : fileK fid 4 (qZ f ⟨#[116]⟩ ⟨2, 0, x⟩) := by
 obtain ⟨a, b, n, t, e, h1, h2, h3, h4, h5, h6, h7, h8⟩ := h.at_
 obtain rfl := h8 (by omega)
 exact ⟨h.id, h.ow, h.lk, _, _, _, _, by simp only [qZ, e]; exact b3K x a b n, h1, h2, h3, a4U hx, fun q => by omega, fun q => by omega, fun q => by omega, fun q => by omega⟩
theorem b1j {fid : Int} {f : TFile} (h : fileK fid 4 f) : fileD fid f := by
 obtain ⟨a, b, n, t, e, h1, h2, h3, h4, _⟩ := h.at_
 exact ⟨h.id, h.ow, h.lk, a, b, n, t, e, h1, h2, h3, h4⟩
@[go_sem] def wd1 : List ByteArray := [⟨#[105, 110, 107]⟩, ⟨#[115, 101, 97]⟩]
@[go_sem] def wd2 : List ByteArray := [⟨#[114, 101, 100]⟩, ⟨#[98, 108, 117, 101]⟩]
theorem b3L : ∀ s ∈ wd1, s ∈ words := by
 intro s hs; simp [wd1] at hs; rcases hs with rfl | rfl <;> simp [words]
theorem b3M : ∀ s ∈ wd2, s ∈ words := by
 intro s hs; simp [wd2] at hs; rcases hs with rfl | rfl <;> simp [words]
theorem kW {l : List Int} (hl : iI l) (fid : Int) : Drw l 70 [oi fid] (fun f : TFile => fileD fid f) (fun f => a7c f) := by
 intro i h hi hh; refine nQ Tryz.func70 rfl Tryz.call70 rfl (fun C b => ?_); simp only [go_sem, Tryz.ntmps70]
 refine aD ?_
 first | (refine aP (aG hl 3 (by decide) (by decide) i h hi hh) ⟨rfl, rfl⟩ ?_ rfl ?_; (focus first | rfl | (simp only [go_sem]; done))) | (refine hZ (aG hl 3 (by decide) (by decide) i h hi hh) ⟨rfl, rfl⟩ ?_ rfl ?_; (focus first | rfl | (simp only [go_sem]; done)))
 clear hi hh; rintro ⟨ow, i, h⟩ ⟨how, hi, hh⟩; simp only at how hi hh; simp only [go_sem]
 refine aD ?_
 first | (refine aP (dD hl 2 (by decide) (by decide) i h hi hh) ⟨rfl, rfl⟩ ?_ rfl ?_; (focus first | rfl | (simp only [go_sem]; done))) | (refine hZ (dD hl 2 (by decide) (by decide) i h hi hh) ⟨rfl, rfl⟩ ?_ rfl ?_; (focus first | rfl | (simp only [go_sem]; done)))
 clear hi hh; rintro ⟨sh, i, h⟩ ⟨q0, hi, hh⟩; simp only at q0 hi hh; simp only [go_sem]
 refine aD ?_
 first | (refine aP (dD hl 2 (by decide) (by decide) i h hi hh) ⟨rfl, rfl⟩ ?_ rfl ?_; (focus first | rfl | (simp only [go_sem]; done))) | (refine hZ (dD hl 2 (by decide) (by decide) i h hi hh) ⟨rfl, rfl⟩ ?_ rfl ?_; (focus first | rfl | (simp only [go_sem]; done)))
 clear hi hh; rintro ⟨c1, i, h⟩ ⟨q1, hi, hh⟩; simp only at q1 hi hh; simp only [go_sem]
 repeat' (with_reducible first | refine nX ?_ | (refine mX ?_; try simp only [go_sem]) | refine kD ?_ | refine aO ?_ | fail)
 refine a6J 2 4 173 4 rfl rfl ?_
 simp only [go_sem]
 refine xU (α := TFile × Nat × Int) (fun _ => []) (fun x => [(0, .pin b 158 [.sl (l.map oK), iv x.2.1, iv x.2.2]), (2, .box 27 [.d (iv x.1.fID), .d (iv x.1.fOwner), .d (bv x.1.fShared), .d (iv x.1.fLink), .s 3]), (3, .row 173 4 (x.1.fAttrs.map fP) true)]) (fun x => fileK fid 0 x.1 ∧ (x.2.1 ≤ l.length ∧ inR .i64 x.2.2)) ?_ ?_
 ·cases c1
  ·refine aD ?_
   exact mJ (⟨fid, ow, sh, 0, []⟩, i, h) ⟨⟨rfl, by simp only; omega, by simp, none, none, none, none, rfl, a0E, a0E, a0F, a0F, fun _ => rfl, fun _ => rfl, fun _ => rfl, fun _ => rfl⟩, ⟨hi, hh⟩⟩ (by simp only [go_sem]; simp) (by simp only [go_sem])
  ·refine aD ?_
   first | (refine aP (aG hl 7 (by decide) (by decide) i h hi hh) ⟨rfl, rfl⟩ ?_ rfl ?_; (focus first | rfl | (simp only [go_sem]; done))) | (refine hZ (aG hl 7 (by decide) (by decide) i h hi hh) ⟨rfl, rfl⟩ ?_ rfl ?_; (focus first | rfl | (simp only [go_sem]; done)))
   clear hi hh; rintro ⟨lk, i, h⟩ ⟨hlk, hi, hh⟩; simp only at hlk hi hh; simp only [go_sem]
   refine aD ?_
   exact mJ (⟨fid, ow, sh, lk, []⟩, i, h) ⟨⟨rfl, by simp only; omega, by simp only; omega, none, none, none, none, rfl, a0E, a0E, a0F, a0F, fun _ => rfl, fun _ => rfl, fun _ => rfl, fun _ => rfl⟩, ⟨hi, hh⟩⟩ (by simp only [go_sem]; simp) (by simp only [go_sem])
 ·rintro ⟨f, i, h⟩ ⟨hf, hi, hh⟩
  simp only at hf hi hh
  simp only [go_sem]
  refine aD ?_
  first | (refine aP (dD hl 4 (by decide) (by decide) i h hi hh) ⟨rfl, rfl⟩ ?_ rfl ?_; (focus first | rfl | (simp only [go_sem]; done))) | (refine hZ (dD hl 4 (by decide) (by decide) i h hi hh) ⟨rfl, rfl⟩ ?_ rfl ?_; (focus first | rfl | (simp only [go_sem]; done)))
  clear hi hh; rintro ⟨c1, i, h⟩ ⟨q1, hi, hh⟩; simp only at q1 hi hh; simp only [go_sem]
  repeat' (with_reducible first | refine nX ?_ | (refine mX ?_; try simp only [go_sem]) | refine kD ?_ | refine aO ?_ | fail)
  refine xU (α := TFile × Nat × Int) (fun _ => []) (fun x => [(0, .pin b 158 [.sl (l.map oK), iv x.2.1, iv x.2.2]), (2, .box 27 [.d (iv x.1.fID), .d (iv x.1.fOwner), .d (bv x.1.fShared), .d (iv x.1.fLink), .s 3]), (3, .row 173 4 (x.1.fAttrs.map fP) true)]) (fun x => fileK fid 1 x.1 ∧ (x.2.1 ≤ l.length ∧ inR .i64 x.2.2)) ?_ ?_
  ·cases c1
   ·have hw := nZ hf
    have hf0 : f.fAttrs.length ≤ 4200000 := by omega
    have qH := trivial; repeat' (with_reducible first | refine nY ?_ | (refine mX ?_; try simp only [go_sem]) | refine kD ?_ | (apply rF [2,3,4,5] [] [0,1] [0,1] ((.c 2 [] [0] (.c 3 [] [0] (.c 4 [] [] (.c 5 [] [] .n .n) .n) .n) .n)) (by simp only [go_sem]; rfl) (by simp only [go_sem]; rfl) (by simp only [go_sem]; rfl) (by decide +kernel); (focus simp only [go_sem]; done)) | exact bF | refine aQ (uX ?_) ?_ | refine aR (aX ?_) ?_ | refine aT (aX ?_) ?_ | exact bR | exact oH | (refine uA ?_; simp only [go_sem]; (repeat' first | omega | refine And.intro ?_ ?_); done) | refine rD ?_ | refine aO ?_ | fail)
    first | (refine aP (aG hl 4 (by decide) (by decide) i h hi hh) ⟨rfl, rfl⟩ ?_ rfl ?_; (focus first | rfl | (simp only [go_sem]; done))) | (refine hZ (aG hl 4 (by decide) (by decide) i h hi hh) ⟨rfl, rfl⟩ ?_ rfl ?_; (focus first | rfl | (simp only [go_sem]; done)))
    clear hi hh; rintro ⟨x, i, h⟩ ⟨hx, hi, hh⟩; simp only at hx hi hh; simp only [go_sem]
    have qH := trivial; repeat' (with_reducible first | refine nY ?_ | (refine mX ?_; try simp only [go_sem]) | refine kD ?_ | exact bF | refine aQ (uX ?_) ?_ | refine aR (aX ?_) ?_ | refine aT (aX ?_) ?_ | (refine uA ?_; simp only [go_sem]; (repeat' first | omega | refine And.intro ?_ ?_); done) | refine rD ?_ | refine cP (nD x) ?_ | refine hR (bZ f ⟨#[97]⟩ ⟨1, x, ⟨#[]⟩⟩ hf0) ?_ | refine vR (bZ f ⟨#[97]⟩ ⟨1, x, ⟨#[]⟩⟩ hf0) ?_ | refine vD (bZ f ⟨#[97]⟩ ⟨1, x, ⟨#[]⟩⟩ hf0) ?_ | refine aO ?_ | fail)
    exact a0G [(3, 4)] (qZ f ⟨#[97]⟩ ⟨1, x, ⟨#[]⟩⟩, i, h) ⟨b1f hf (by omega), ⟨hi, hh⟩⟩ (by simp only [go_sem]; rfl) (by simp only [go_sem]; simp) (by simp only [go_sem])
   ·have hw := nZ hf
    refine aD ?_
    exact mJ (f, i, h) ⟨xS hf, ⟨hi, hh⟩⟩ (by simp only [go_sem]; simp) (by simp only [go_sem])
  ·rintro ⟨f, i, h⟩ ⟨hf, hi, hh⟩
   simp only at hf hi hh
   simp only [go_sem]
   refine aD ?_
   first | (refine aP (dD hl 2 (by decide) (by decide) i h hi hh) ⟨rfl, rfl⟩ ?_ rfl ?_; (focus first | rfl | (simp only [go_sem]; done))) | (refine hZ (dD hl 2 (by decide) (by decide) i h hi hh) ⟨rfl, rfl⟩ ?_ rfl ?_; (focus first | rfl | (simp only [go_sem]; done)))
   clear hi hh; rintro ⟨c1, i, h⟩ ⟨q1, hi, hh⟩; simp only at q1 hi hh; simp only [go_sem]
   repeat' (with_reducible first | refine nX ?_ | (refine mX ?_; try simp only [go_sem]) | refine kD ?_ | refine aO ?_ | fail)
   refine xU (α := TFile × Nat × Int) (fun _ => []) (fun x => [(0, .pin b 158 [.sl (l.map oK), iv x.2.1, iv x.2.2]), (2, .box 27 [.d (iv x.1.fID), .d (iv x.1.fOwner), .d (bv x.1.fShared), .d (iv x.1.fLink), .s 3]), (3, .row 173 4 (x.1.fAttrs.map fP) true)]) (fun x => fileK fid 2 x.1 ∧ (x.2.1 ≤ l.length ∧ inR .i64 x.2.2)) ?_ ?_
   ·cases c1
    ·have hw := nZ hf
     refine aD ?_
     exact mJ (f, i, h) ⟨xS hf, ⟨hi, hh⟩⟩ (by simp only [go_sem]; simp) (by simp only [go_sem])
    ·have hw := nZ hf
     have hf0 : f.fAttrs.length ≤ 4200000 := by omega
     have qH := trivial; repeat' (with_reducible first | refine nY ?_ | (refine mX ?_; try simp only [go_sem]) | refine kD ?_ | (apply rF [2,3,4,5] [] [0,1] [0,1] ((.c 2 [] [0] (.c 3 [] [0] (.c 4 [] [] (.c 5 [] [] .n .n) .n) .n) .n)) (by simp only [go_sem]; rfl) (by simp only [go_sem]; rfl) (by simp only [go_sem]; rfl) (by decide +kernel); (focus simp only [go_sem]; done)) | exact bF | refine aQ (uX ?_) ?_ | refine aR (aX ?_) ?_ | refine aT (aX ?_) ?_ | exact bR | exact oH | (refine uA ?_; simp only [go_sem]; (repeat' first | omega | refine And.intro ?_ ?_); done) | refine rD ?_ | refine aO ?_ | fail)
     first | (refine aP (aG hl 4 (by decide) (by decide) i h hi hh) ⟨rfl, rfl⟩ ?_ rfl ?_; (focus first | rfl | (simp only [go_sem]; done))) | (refine hZ (aG hl 4 (by decide) (by decide) i h hi hh) ⟨rfl, rfl⟩ ?_ rfl ?_; (focus first | rfl | (simp only [go_sem]; done)))
     clear hi hh; rintro ⟨x, i, h⟩ ⟨hx, hi, hh⟩; simp only at hx hi hh; simp only [go_sem]
     have qH := trivial; repeat' (with_reducible first | refine nY ?_ | (refine mX ?_; try simp only [go_sem]) | refine kD ?_ | exact bF | refine aQ (uX ?_) ?_ | refine aR (aX ?_) ?_ | refine aT (aX ?_) ?_ | (refine uA ?_; simp only [go_sem]; (repeat' first | omega | refine And.intro ?_ ?_); done) | refine rD ?_ | refine cP (nD x) ?_ | refine hR (bZ f ⟨#[98]⟩ ⟨1, x, ⟨#[]⟩⟩ hf0) ?_ | refine vR (bZ f ⟨#[98]⟩ ⟨1, x, ⟨#[]⟩⟩ hf0) ?_ | refine vD (bZ f ⟨#[98]⟩ ⟨1, x, ⟨#[]⟩⟩ hf0) ?_ | refine aO ?_ | fail)
     exact a0G [(3, 4)] (qZ f ⟨#[98]⟩ ⟨1, x, ⟨#[]⟩⟩, i, h) ⟨b1g hf (by omega), ⟨hi, hh⟩⟩ (by simp only [go_sem]; rfl) (by simp only [go_sem]; simp) (by simp only [go_sem])
   ·rintro ⟨f, i, h⟩ ⟨hf, hi, hh⟩
    simp only at hf hi hh
    simp only [go_sem]
    refine aD ?_
    first | (refine aP (dD hl 3 (by decide) (by decide) i h hi hh) ⟨rfl, rfl⟩ ?_ rfl ?_; (focus first | rfl | (simp only [go_sem]; done))) | (refine hZ (dD hl 3 (by decide) (by decide) i h hi hh) ⟨rfl, rfl⟩ ?_ rfl ?_; (focus first | rfl | (simp only [go_sem]; done)))
    clear hi hh; rintro ⟨c1, i, h⟩ ⟨q1, hi, hh⟩; simp only at q1 hi hh; simp only [go_sem]
    repeat' (with_reducible first | refine nX ?_ | (refine mX ?_; try simp only [go_sem]) | refine kD ?_ | refine aO ?_ | fail)
    refine xU (α := TFile × Nat × Int) (fun _ => []) (fun x => [(0, .pin b 158 [.sl (l.map oK), iv x.2.1, iv x.2.2]), (2, .box 27 [.d (iv x.1.fID), .d (iv x.1.fOwner), .d (bv x.1.fShared), .d (iv x.1.fLink), .s 3]), (3, .row 173 4 (x.1.fAttrs.map fP) true)]) (fun x => fileK fid 3 x.1 ∧ (x.2.1 ≤ l.length ∧ inR .i64 x.2.2)) ?_ ?_
    ·cases c1
     ·have hw := nZ hf
      have hf0 : f.fAttrs.length ≤ 4200000 := by omega
      have qH := trivial; repeat' (with_reducible first | refine nY ?_ | (refine mX ?_; try simp only [go_sem]) | refine kD ?_ | (apply rF [2,3,4,5,6] [] [0,1] [0,1] ((.c 2 [] [0,1] (.c 3 [] [0] (.c 4 [] [0] (.c 5 [] [] (.c 6 [] [] .n .n) .n) .n) .n) .n)) (by simp only [go_sem]; rfl) (by simp only [go_sem]; rfl) (by simp only [go_sem]; rfl) (by decide +kernel); (focus simp only [go_sem]; done)) | exact bF | refine aQ (uX ?_) ?_ | refine aR (aX ?_) ?_ | refine aT (aX ?_) ?_ | exact bR | exact oH | (refine uA ?_; simp only [go_sem]; (repeat' first | omega | refine And.intro ?_ ?_); done) | refine rD ?_ | refine aO ?_ | fail)
      first | (refine aP (bW hl wd1 (by decide) (by decide) i h hi hh) ⟨rfl, rfl⟩ ?_ rfl ?_; (focus first | rfl | (simp only [go_sem]; done))) | (refine hZ (bW hl wd1 (by decide) (by decide) i h hi hh) ⟨rfl, rfl⟩ ?_ rfl ?_; (focus first | rfl | (simp only [go_sem]; done)))
      clear hi hh; rintro ⟨x, i, h⟩ ⟨hx, hi, hh⟩; simp only at hx hi hh; simp only [go_sem]
      have qH := trivial; repeat' (with_reducible first | refine nY ?_ | (refine mX ?_; try simp only [go_sem]) | refine kD ?_ | exact bF | refine aQ (uX ?_) ?_ | refine aR (aX ?_) ?_ | refine aT (aX ?_) ?_ | (refine uA ?_; simp only [go_sem]; (repeat' first | omega | refine And.intro ?_ ?_); done) | refine rD ?_ | refine cP (pJ x) ?_ | refine hR (bZ f ⟨#[110]⟩ ⟨2, 0, x⟩ hf0) ?_ | refine vR (bZ f ⟨#[110]⟩ ⟨2, 0, x⟩ hf0) ?_ | refine vD (bZ f ⟨#[110]⟩ ⟨2, 0, x⟩ hf0) ?_ | refine aO ?_ | fail)
      exact a0G [(3, 5)] (qZ f ⟨#[110]⟩ ⟨2, 0, x⟩, i, h) ⟨b1h hf (b3L x hx), ⟨hi, hh⟩⟩ (by simp only [go_sem]; rfl) (by simp only [go_sem]; simp) (by simp only [go_sem])
     ·have hw := nZ hf
      refine aD ?_
      exact mJ (f, i, h) ⟨xS hf, ⟨hi, hh⟩⟩ (by simp only [go_sem]; simp) (by simp only [go_sem])
    ·rintro ⟨f, i, h⟩ ⟨hf, hi, hh⟩
     simp only at hf hi hh
     simp only [go_sem]
     refine aD ?_
     first | (refine aP (dD hl 2 (by decide) (by decide) i h hi hh) ⟨rfl, rfl⟩ ?_ rfl ?_; (focus first | rfl | (simp only [go_sem]; done))) | (refine hZ (dD hl 2 (by decide) (by decide) i h hi hh) ⟨rfl, rfl⟩ ?_ rfl ?_; (focus first | rfl | (simp only [go_sem]; done)))
     clear hi hh; rintro ⟨c1, i, h⟩ ⟨q1, hi, hh⟩; simp only at q1 hi hh; simp only [go_sem]
     repeat' (with_reducible first | refine nX ?_ | (refine mX ?_; try simp only [go_sem]) | refine kD ?_ | refine aO ?_ | fail)
     refine xU (α := TFile × Nat × Int) (fun _ => []) (fun x => [(0, .pin b 158 [.sl (l.map oK), iv x.2.1, iv x.2.2]), (2, .box 27 [.d (iv x.1.fID), .d (iv x.1.fOwner), .d (bv x.1.fShared), .d (iv x.1.fLink), .s 3]), (3, .row 173 4 (x.1.fAttrs.map fP) true)]) (fun x => fileK fid 4 x.1 ∧ (x.2.1 ≤ l.length ∧ inR .i64 x.2.2)) ?_ ?_
     ·cases c1
      ·have hw := nZ hf
       refine aD ?_
       exact mJ (f, i, h) ⟨xS hf, ⟨hi, hh⟩⟩ (by simp only [go_sem]; simp) (by simp only [go_sem])
      ·have hw := nZ hf
       have hf0 : f.fAttrs.length ≤ 4200000 := by omega
       have qH := trivial; repeat' (with_reducible first | refine nY ?_ | (refine mX ?_; try simp only [go_sem]) | refine kD ?_ | (apply rF [2,3,4,5,6] [] [0,1] [0,1] ((.c 2 [] [0,1] (.c 3 [] [0] (.c 4 [] [0] (.c 5 [] [] (.c 6 [] [] .n .n) .n) .n) .n) .n)) (by simp only [go_sem]; rfl) (by simp only [go_sem]; rfl) (by simp only [go_sem]; rfl) (by decide +kernel); (focus simp only [go_sem]; done)) | exact bF | refine aQ (uX ?_) ?_ | refine aR (aX ?_) ?_ | refine aT (aX ?_) ?_ | exact bR | exact oH | (refine uA ?_; simp only [go_sem]; (repeat' first | omega | refine And.intro ?_ ?_); done) | refine rD ?_ | refine aO ?_ | fail)
       first | (refine aP (bW hl wd2 (by decide) (by decide) i h hi hh) ⟨rfl, rfl⟩ ?_ rfl ?_; (focus first | rfl | (simp only [go_sem]; done))) | (refine hZ (bW hl wd2 (by decide) (by decide) i h hi hh) ⟨rfl, rfl⟩ ?_ rfl ?_; (focus first | rfl | (simp only [go_sem]; done)))
       clear hi hh; rintro ⟨x, i, h⟩ ⟨hx, hi, hh⟩; simp only at hx hi hh; simp only [go_sem]
       have qH := trivial; repeat' (with_reducible first | refine nY ?_ | (refine mX ?_; try simp only [go_sem]) | refine kD ?_ | exact bF | refine aQ (uX ?_) ?_ | refine aR (aX ?_) ?_ | refine aT (aX ?_) ?_ | (refine uA ?_; simp only [go_sem]; (repeat' first | omega | refine And.intro ?_ ?_); done) | refine rD ?_ | refine cP (pJ x) ?_ | refine hR (bZ f ⟨#[116]⟩ ⟨2, 0, x⟩ hf0) ?_ | refine vR (bZ f ⟨#[116]⟩ ⟨2, 0, x⟩ hf0) ?_ | refine vD (bZ f ⟨#[116]⟩ ⟨2, 0, x⟩ hf0) ?_ | refine aO ?_ | fail)
       exact a0G [(3, 5)] (qZ f ⟨#[116]⟩ ⟨2, 0, x⟩, i, h) ⟨b1i hf (b3M x hx), ⟨hi, hh⟩⟩ (by simp only [go_sem]; rfl) (by simp only [go_sem]; simp) (by simp only [go_sem])
     ·rintro ⟨f, i, h⟩ ⟨hf, hi, hh⟩
      simp only at hf hi hh
      simp only [go_sem]
      refine aD ?_
      exact aH (f, i, h) ⟨⟨_, rfl, by simp only [go_sem]⟩, trivial⟩ ⟨b1j hf, ⟨hi, hh⟩⟩ (by simp only [go_sem])
end Go.Proofs.YtolgdibgnndoaaaGreat
end
section
set_option maxRecDepth 100000
namespace Go.Proofs.YtolgdibgnndoaaaGreat
open Go Go.Sx Go.RowKit Go.Proofs
theorem b5q {α : Type} (l : List α) : (l.all fun _ => true) = true := by simp
theorem a5d (l : List Int) (hl : l.length ≤ 67108864) : FnC Tryz.prog 205 [.o (.d (.sl (l.map iQ)))] (.o (.w 3 1 (l.map iQ))) := by
 refine ent Tryz.func205 rfl Tryz.call205 rfl (fun C => ?_); simp only [go_sem, st0, Tryz.ntmps205]
 refine aD ?_
 intro b hb
 refine aD ?_
 refine cnd rfl (fun h1 => ?_) (fun h1 => ?_)
 ·have e := hb h1
  simp only [List.map_eq_nil_iff] at e
  subst e
  refine aD ?_
  exact aA ⟨⟨_, rfl, by simp only [go_sem]⟩, trivial⟩
 ·refine aD ?_
  exact aA ⟨⟨_, rfl, by simp only [go_sem, b5q]⟩, trivial⟩
end Go.Proofs.YtolgdibgnndoaaaGreat
end
section
set_option maxRecDepth 100000
set_option maxHeartbeats 4000000
namespace Go.Proofs.YtolgdibgnndoaaaGreat
open Go Go.Sx Go.RowKit Go.Proofs
theorem tC (f : TFile) (h : f.fAttrs.length ≤ 4300000) : FnC Tryz.prog 77 [pM f] (a7c f) := by
 refine ent Tryz.func77 rfl Tryz.call77 rfl (fun C => ?_); simp only [go_sem, st0, Tryz.ntmps77]
 refine aD ?_
 exact aA ⟨⟨_, rfl, by simp only [go_sem]⟩, trivial⟩
theorem tF (s : TStore) (h : dV s ≤ 4300000) : FnC Tryz.prog 74 [gZ s] (a6l s) := by
 have h1 : s.fSchema.length ≤ 4300000 := by unfold dV bG at h; omega
 have h2 : s.fFiles.length + dN eF s.fFiles ≤ 4300000 := by unfold dV lU at h; omega
 refine ent Tryz.func74 rfl Tryz.call74 rfl (fun C => ?_); simp only [go_sem, st0, Tryz.ntmps74]
 have qH := trivial; repeat' (with_reducible first | refine nY ?_ | (refine mX ?_; try simp only [go_sem]) | refine kD ?_ | (apply rE [0,3,7,8] [] [1,2,4,5] [1,2,4,5] ((.c 0 [] [1,2,4,5] (.c 3 [6] [4,5,6] (.c 7 [] [4,5,6] (.c 8 [] [] .n .n) .n) (.c 7 [] [1,2,4,5] (.c 3 [6] [4,5,6] (.c 8 [] [] .n .n) .n) .n)) (.c 7 [] [1,2,4,5] (.c 0 [] [1,2,4,5] (.c 3 [6] [4,5,6] (.c 8 [] [] .n .n) .n) .n) .n))) (by simp only [go_sem]; rfl) (by simp only [go_sem]; rfl) (by simp only [go_sem]; rfl) (by decide +kernel); (focus simp only [go_sem]; done)) | exact bF | refine aQ (uX ?_) ?_ | refine aR (aX ?_) ?_ | refine aT (aX ?_) ?_ | exact bR | (refine a3K [(2, 3)] (by simp only [go_sem]; rfl) ?_; exact rfl) | exact oH | (refine uA ?_; simp only [go_sem]; (repeat' first | omega | refine And.intro ?_ ?_); done) | refine rD ?_ | refine aO ?_ | fail)
 refine a6J 3 1 27 5 rfl rfl ?_
 simp only [go_sem]
 refine bC (α := Nat) (fun k => [(4, oi k)]) (fun k => [(4, .row 27 5 ((s.fFiles.take k).map eP) true)]) (fun k => k ≤ s.fFiles.length) (fun k => s.fFiles.length - k) 0 (fun _ => ?_) ?_ ?_ (fun k hk => ?_)
 ·simp only [go_sem]
 ·simp only [go_sem]; simp
 ·simp
 ·simp only [go_sem]
  refine aD ?_
  refine cnd rfl (fun h1 => ?_) (fun h1 => ?_)
  ·simp only [decide_eq_true_eq, Int.ofNat_lt] at h1
   have hw := dI eF s.fFiles h1
   have hx : s.fFiles[k].fAttrs.length ≤ 4300000 := by
    have e : s.fFiles[k].fAttrs.length ≤ eF s.fFiles[k] := by unfold eF gT; omega
    omega
   have ht := List.take_succ_eq_append_getElem h1
   have hn : (s.fFiles.take k).length = k := by rw [List.length_take]; omega
   have qH := aI @h1 @hn; repeat' (with_reducible first | refine nY ?_ | (refine mX ?_; try simp only [go_sem, qH]) | refine kD ?_ | (apply rE [7,8,9,11] [] [0,1,2,3,4,5,6] [0,1,2,3,4,5,6] ((.c 7 [] [0,1] (.c 8 [] [0,1] (.c 9 [10] [10] (.c 11 [] [] .n .n) .n) .n) .n)) (by simp only [go_sem]; rfl) (by simp only [go_sem]; rfl) (by simp only [go_sem]; rfl) (by decide +kernel); (focus simp only [go_sem]; done)) | exact bF | refine aQ (uX ?_) ?_ | refine aR (aX ?_) ?_ | refine aT (aX ?_) ?_ | exact bR | exact oH | exact uB | refine rD ?_ | refine cP (tC s.fFiles[k] hx) ?_ | refine aO ?_ | fail)
   refine aF (k + 1) ?_ ?_ ?_
   ·simp only [go_sem, ht, List.map_append]; simp [eP]
   ·omega
   ·omega
  ·simp only [decide_eq_false_iff_not] at h1
   have e : k = s.fFiles.length := by omega
   subst e
   refine aD ?_
   exact aA ⟨⟨_, rfl, by simp only [go_sem, List.take_length]⟩, trivial⟩
theorem a1U (s : TStore) (f : TFile) (hs : dV s ≤ 4300000) (hf : eF f ≤ 4300000) : FnC Tryz.prog 145 [gZ s, pM f] (.t [(true, (a6l (creS s f)).cells), (false, [.d (iv (a8m s f))]), (false, [.d (bv (lM s f))])]) := by
 have h1 : bG s.fSchema ≤ 4300000 := by unfold dV at hs; omega
 have h2 : s.fFiles.length ≤ 4300000 := by unfold dV lU at hs; omega
 have h3 : f.fAttrs.length ≤ 4300000 := by unfold eF gT at hf; omega
 have hm : (mkF s f) = ⟨s.fNextID, f.fOwner, f.fShared, f.fLink, f.fAttrs⟩ := rfl
 refine ent Tryz.func145 rfl Tryz.call145 rfl (fun C => ?_); simp only [go_sem, st0, Tryz.ntmps145]
 cases hv : bL s
 ·have e : lM s f = false := by simp [lM, hv]
  have qH := @hv; repeat' (with_reducible first | refine nY ?_ | (refine mX ?_; try simp only [go_sem, qH]) | refine kD ?_ | refine rD ?_ | refine cP (tF s hs) ?_ | refine cP (tC f h3) ?_ | refine vR (dO s hs) ?_ | refine vD (dO s hs) ?_ | refine aO ?_ | fail)
  exact aA ⟨⟨_, rfl, by simp only [go_sem, creS, a8m, e]; try simp⟩, by simp [dQ]⟩
 by_cases hl : s.fFiles.length < 12
 case neg =>
  have e : lM s f = false := by simp [lM, hl]
  have hz : (12 : Int) ≤ (s.fFiles.length : Int) := by omega
  have qH := aI @hv (aI @hz @decide_true); repeat' (with_reducible first | refine nY ?_ | (refine mX ?_; try simp only [go_sem, qH]) | refine kD ?_ | refine rD ?_ | refine cP (tF s hs) ?_ | refine cP (tC f h3) ?_ | refine vR (dO s hs) ?_ | refine vD (dO s hs) ?_ | refine aO ?_ | fail)
  exact aA ⟨⟨_, rfl, by simp only [go_sem, creS, a8m, e]; try simp⟩, by simp [dQ]⟩
 have hz : ¬ (12 : Int) ≤ (s.fFiles.length : Int) := by omega
 cases ho : eB s.fSchema (mkF s f)
 ·have e : lM s f = false := by simp [lM, ho]
  have hk := gX s.fSchema (mkF s f) h1 hf
  rw [ho, hm] at hk
  have qH := aI @hv (aI @hz @decide_false); repeat' (with_reducible first | refine nY ?_ | (refine mX ?_; try simp only [go_sem, qH]) | refine kD ?_ | refine rD ?_ | refine cP (tF s hs) ?_ | refine cP (tC f h3) ?_ | refine vR (dO s hs) ?_ | refine vD (dO s hs) ?_ | refine vR hk ?_ | refine vD hk ?_ | refine aO ?_ | fail)
  exact aA ⟨⟨_, rfl, by simp only [go_sem, creS, a8m, e]; try simp⟩, by simp [dQ]⟩
 ·have e : lM s f = true := by simp [lM, hv, hl, ho]
  have hid := a2D ho
  have hid2 : 1 ≤ s.fNextID ∧ s.fNextID ≤ 60 := hid
  have hk := gX s.fSchema (mkF s f) h1 hf
  rw [ho, hm] at hk
  have qH := aI @hv (aI @hz @decide_false); repeat' (with_reducible first | refine nY ?_ | (refine mX ?_; try simp only [go_sem, qH]) | refine kD ?_ | (apply rE [3] [] [0,1,2] [0,1,2] ((.c 3 [4,5] [1,2,4,5] .n .n)) (by simp only [go_sem]; rfl) (by simp only [go_sem]; rfl) (by simp only [go_sem]; rfl) (by decide +kernel); (focus simp only [go_sem]; done)) | exact bF | refine aQ (uX ?_) ?_ | refine aR (aX ?_) ?_ | refine aT (aX ?_) ?_ | exact bR | exact oH | exact uB | refine rD ?_ | refine cP (tF s hs) ?_ | refine cP (tC f h3) ?_ | refine vR (dO s hs) ?_ | refine vG (dO s hs) ?_ | refine vR hk ?_ | refine vG hk ?_ | refine aO ?_ | fail)
  exact aA ⟨⟨_, rfl, by simp only [go_sem, creS, a8m, e, if_true, List.map_append, mkF]; try simp [eP]⟩, by simp [dQ]⟩
end Go.Proofs.YtolgdibgnndoaaaGreat
end
section
namespace Go.Proofs.YtolgdibgnndoaaaGreat
open Go Go.Sx Go.RowKit Go.Proofs
def ixF (id : Int) (l : List TFile) : Int := fF (fun f => decide (f.fID = id)) l 0
theorem ixF_cases (id : Int) (l : List TFile) : (ixF id l = -1) ∨ ∃ p : Nat, ixF id l = p ∧ ∃ h : p < l.length, l[p].fID = id := by
 rcases idxP_spec (fun f : TFile => decide (f.fID = id)) l 0 with h | ⟨k, e1, e2, e5, e6⟩
 ·exact .inl h.1
 ·exact .inr ⟨k, by unfold ixF; rw [e1]; simp, e2, by simpa using e5⟩
def zF : TFile := ⟨0, 0, false, 0, []⟩
def b5J (id : Int) (l : List TFile) : TFile := if 0 ≤ ixF id l then l.getD (ixF id l).toNat zF else zF
def rR {α : Type} (p : Nat) (l : List α) : List α := l.take p ++ l.drop (p + 1)
theorem a7n {α : Type} {p : Nat} {l : List α} (h : p < l.length) : (rR p l).length = l.length - 1 := by simp [rR]; omega
theorem a6p {α : Type} {p k : Nat} {l : List α} (h : p < l.length) (hk : k < (rR p l).length) (e : k < p) : (rR p l)[k] = l[k] := by
 simp only [rR]
 rw [List.getElem_append_left (by simp; omega), List.getElem_take]
theorem a9T {α : Type} {p k : Nat} {l : List α} (h : p < l.length) (hk : k < (rR p l).length) (e : ¬ k < p) : (rR p l)[k] = l[k + 1]'(by rw [a7n h] at hk; omega) := by
 simp only [rR]
 rw [List.getElem_append_right (by simp; omega), List.getElem_drop]
 congr 1
 simp; omega
theorem wI {s : TStore} (h : bL s = true) (j : Nat) (h0 : 0 < j) (hj : j < s.fFiles.length) : s.fFiles[j - 1].fID < s.fFiles[j].fID := by
 have q := ((iB hj).1 ((iW.1 h).1 j hj)).2.2
 rw [nI _ _ h0 hj] at q
 simp only [Bool.not_eq_true', decide_eq_false_iff_not] at q
 omega
theorem a7o (l : List TFile) (k : Nat) (hk : k < l.length) (h : ∀ h0 : 0 < k, (l[k - 1]'(by omega)).fID < l[k].fID) : a3M l k = true := by
 by_cases h0 : 0 < k
 ·rw [nI _ _ h0 hk]
  have := h h0
  simp only [Bool.not_eq_true', decide_eq_false_iff_not]
  omega
 ·exact a1r _ _ h0
def zX (s : TStore) (id : Int) : Bool := bL s && decide (0 ≤ ixF id s.fFiles)
def delS (s : TStore) (id : Int) : TStore := if zX s id then ⟨s.fSchema, rR (ixF id s.fFiles).toNat s.fFiles, s.fNextID⟩ else s
theorem b2V {s : TStore} {id : Int} (h : zX s id = true) : bL (delS s id) = true := by
 have h' := h
 unfold zX at h'
 rw [Bool.and_eq_true, decide_eq_true_eq] at h'
 obtain ⟨hs, hi⟩ := h'
 obtain ⟨h1, h2, h3, h4, h5⟩ := iW.1 hs
 rcases ixF_cases id s.fFiles with e | ⟨p, e, hp, _⟩
 ·omega
 unfold delS
 rw [if_pos h, e, Int.toNat_natCast]
 have hl := a7n hp
 refine iW.2 ⟨fun k hk => ?_, h2, by simp only [hl]; omega, h4, h5⟩
 rw [iB hk]
 simp only at hk ⊢
 by_cases ek : k < p
 ·have e1 := a6p hp hk ek
  obtain ⟨q1, q2, q3⟩ := (iB (by omega)).1 (h1 k (by omega))
  refine ⟨by rw [e1]; exact q1, by rw [e1]; exact q2, a7o _ _ hk fun h0 => ?_⟩
  rw [e1, a6p hp (by omega) (by omega)]
  exact wI hs k h0 (by omega)
 ·have e1 := a9T hp hk ek
  have hk1 : k + 1 < s.fFiles.length := by rw [hl] at hk; omega
  obtain ⟨q1, q2, q3⟩ := (iB hk1).1 (h1 (k + 1) hk1)
  refine ⟨by rw [e1]; exact q1, by rw [e1]; exact q2, a7o _ _ hk fun h0 => ?_⟩
  have u1 := wI hs (k + 1) (by omega) hk1
  simp only [Nat.add_sub_cancel] at u1
  by_cases ep : k - 1 < p
  ·rw [e1, a6p hp (by omega) ep]
   have u2 := wI hs k h0 (by omega)
   omega
  ·rw [e1, a9T hp (by omega) ep]
   have ee : k - 1 + 1 = k := by omega
   simp only [ee]
   exact u1
def b4m (s : TStore) (f : TFile) : Bool := bL s && (decide (0 ≤ ixF f.fID s.fFiles) && eB s.fSchema f)
def b5P (s : TStore) (f : TFile) : TStore := if b4m s f then ⟨s.fSchema, s.fFiles.set (ixF f.fID s.fFiles).toNat f, s.fNextID⟩ else s
end Go.Proofs.YtolgdibgnndoaaaGreat
end
section
set_option maxRecDepth 100000
set_option maxHeartbeats 4000000
namespace Go.Proofs.YtolgdibgnndoaaaGreat
open Go Go.Sx Go.RowKit Go.Proofs
theorem a5e (s : TStore) (id : Int) (hl : s.fFiles.length ≤ 4300000) : FnC Tryz.prog 75 [gZ s, oi id] (oi (ixF id s.fFiles)) := by
 refine ent Tryz.func75 rfl Tryz.call75 rfl (fun C => ?_); simp only [go_sem, st0, Tryz.ntmps75]
 refine aD ?_
 refine bC (α := Nat) (fun k => [(5, oi k)]) (fun _ => []) (fun k => k ≤ s.fFiles.length ∧ ixF id s.fFiles = fF (fun f => decide (f.fID = id)) (s.fFiles.drop k) k) (fun k => s.fFiles.length - k) 0 (fun _ => ?_) ?_ ?_ (fun k hk => ?_)
 ·simp only [go_sem]
 ·simp only [go_sem]; simp
 ·simp [ixF]
 ·obtain ⟨hk, hq⟩ := hk
  simp only [go_sem]
  refine aD ?_
  refine cnd rfl (fun h => ?_) (fun h => ?_)
  ·simp only [decide_eq_true_eq, Int.ofNat_lt] at h
   have hd := List.drop_eq_getElem_cons h
   rw [hd, fF] at hq
   by_cases h2 : s.fFiles[k].fID = id
   ·rw [if_pos (by simp [h2])] at hq
    have q0 := @h; have q1 := @h2; have q2 := @decide_true; refine kE ?_
    exact aA ⟨⟨_, rfl, by simp only [go_sem, hq]⟩, trivial⟩
   ·rw [if_neg (by simp [h2])] at hq
    have q0 := @h; have q1 := @h2; have q2 := @decide_false; refine kE ?_
    refine aF (k + 1) ?_ ?_ ?_
    ·simp only [go_sem]; simp
    ·rw [hq]; exact ⟨h, by simp⟩
    ·omega
  ·simp only [decide_eq_false_iff_not] at h
   have e : k = s.fFiles.length := by omega
   subst e
   simp only [List.drop_length, fF] at hq
   refine aD ?_
   exact aA ⟨⟨_, rfl, by simp only [go_sem, hq]⟩, trivial⟩
end Go.Proofs.YtolgdibgnndoaaaGreat
end
section
namespace Go.Proofs
open Go.Shelf
def Tryz.laysSortStr_ren : Go.Shelf.Ren := ⟨fun | 190 => 192 | 125 => 234 | 258 => 233 | 128 => 266 | 129 => 267 | 302 => 257 | 303 => 258 | 304 => 259 | 305 => 260 | 306 => 261 | 307 => 262 | 308 => 263 | 309 => 264 | 310 => 265 | 333 => 279 | 329 => 280 | 330 => 281 | 334 => 282 | 335 => 283 | 336 => 250 | 344 => 286 | n => n, fun | 31 => 30 | 9 => 9 | 3 => 3 | 46 => 214 | 0 => 0 | 51 => 267 | 53 => 269 | 4 => 4 | 183 => 259 | 182 => 258 | 131 => 264 | 5 => 5 | 218 => 275 | 222 => 279 | 228 => 281 | 229 => 282 | n => n, fun | n => n⟩
theorem Tryz.laysSortStr : Go.Proofs.Lays.n190 Tryz.prog Tryz.laysSortStr_ren := {
 mixed := by kernel_rfl
 f125 := Tryz.func234.trans (congrArg some (by kernel_rfl))
 f128 := Tryz.func266.trans (congrArg some (by kernel_rfl))
 f129 := Tryz.func267.trans (congrArg some (by kernel_rfl))
 f190 := Tryz.func192.trans (congrArg some (by kernel_rfl))
 f258 := Tryz.func233.trans (congrArg some (by kernel_rfl))
 f302 := Tryz.func257.trans (congrArg some (by kernel_rfl))
 f303 := Tryz.func258.trans (congrArg some (by kernel_rfl))
 f304 := Tryz.func259.trans (congrArg some (by kernel_rfl))
 f305 := Tryz.func260.trans (congrArg some (by kernel_rfl))
 f306 := Tryz.func261.trans (congrArg some (by kernel_rfl))
 f307 := Tryz.func262.trans (congrArg some (by kernel_rfl))
 f308 := Tryz.func263.trans (congrArg some (by kernel_rfl))
 f309 := Tryz.func264.trans (congrArg some (by kernel_rfl))
 f310 := Tryz.func265.trans (congrArg some (by kernel_rfl))
 f329 := Tryz.func280.trans (congrArg some (by kernel_rfl))
 f330 := Tryz.func281.trans (congrArg some (by kernel_rfl))
 f333 := Tryz.func279.trans (congrArg some (by kernel_rfl))
 f334 := Tryz.func282.trans (congrArg some (by kernel_rfl))
 f335 := Tryz.func283.trans (congrArg some (by kernel_rfl))
 f336 := Tryz.func250.trans (congrArg some (by kernel_rfl))
 f344 := Tryz.func286.trans (congrArg some (by kernel_rfl))
 t0 := Tryz.underlying0
 a0 := Tryz.isAgg0
 z0 := Tryz.sizeOf0
 v0 := Tryz.zeroValue0
 t3 := Tryz.underlying3
 a3 := Tryz.isAgg3
 z3 := Tryz.sizeOf3
 v3 := Tryz.zeroValue3
 t4 := Tryz.underlying4
 a4 := Tryz.isAgg4
 z4 := Tryz.sizeOf4
 v4 := Tryz.zeroValue4
 t5 := Tryz.underlying5
 a5 := Tryz.isAgg5
 z5 := Tryz.sizeOf5
 v5 := Tryz.zeroValue5
 t9 := Tryz.underlying9
 a9 := Tryz.isAgg9
 z9 := Tryz.sizeOf9
 v9 := Tryz.zeroValue9
 t31 := Tryz.underlying30
 a31 := Tryz.isAgg30
 z31 := Tryz.sizeOf30
 v31 := Tryz.zeroValue30
 t46 := Tryz.underlying214
 a46 := Tryz.isAgg214
 z46 := Tryz.sizeOf214
 v46 := Tryz.zeroValue214
 t51 := Tryz.underlying267
 a51 := Tryz.isAgg267
 z51 := Tryz.sizeOf267
 v51 := Tryz.zeroValue267
 t53 := Tryz.underlying269
 a53 := Tryz.isAgg269
 z53 := Tryz.sizeOf269
 v53 := Tryz.zeroValue269
 t131 := Tryz.underlying264
 a131 := Tryz.isAgg264
 z131 := Tryz.sizeOf264
 v131 := Tryz.zeroValue264
 t182 := Tryz.underlying258
 a182 := Tryz.isAgg258
 z182 := Tryz.sizeOf258
 v182 := Tryz.zeroValue258
 t183 := Tryz.underlying259
 a183 := Tryz.isAgg259
 z183 := Tryz.sizeOf259
 v183 := Tryz.zeroValue259
 t218 := Tryz.underlying275
 a218 := Tryz.isAgg275
 z218 := Tryz.sizeOf275
 v218 := Tryz.zeroValue275
 t222 := Tryz.underlying279
 a222 := Tryz.isAgg279
 z222 := Tryz.sizeOf279
 v222 := Tryz.zeroValue279
 t228 := Tryz.underlying281
 a228 := Tryz.isAgg281
 z228 := Tryz.sizeOf281
 v228 := Tryz.zeroValue281
 t229 := Tryz.underlying282
 a229 := Tryz.isAgg282
 z229 := Tryz.sizeOf282
 v229 := Tryz.zeroValue282 }
def Tryz.laysCompactStr_ren : Go.Shelf.Ren := ⟨fun | 194 => 193 | n => n, fun | 31 => 30 | 9 => 9 | 3 => 3 | 4 => 4 | 0 => 0 | n => n, fun | n => n⟩
theorem Tryz.laysCompactStr : Go.Proofs.Lays.n194 Tryz.prog Tryz.laysCompactStr_ren := {
 mixed := by kernel_rfl
 f194 := Tryz.func193.trans (congrArg some (by kernel_rfl))
 t0 := Tryz.underlying0
 a0 := Tryz.isAgg0
 z0 := Tryz.sizeOf0
 v0 := Tryz.zeroValue0
 t3 := Tryz.underlying3
 a3 := Tryz.isAgg3
 z3 := Tryz.sizeOf3
 v3 := Tryz.zeroValue3
 t4 := Tryz.underlying4
 a4 := Tryz.isAgg4
 z4 := Tryz.sizeOf4
 v4 := Tryz.zeroValue4
 t9 := Tryz.underlying9
 a9 := Tryz.isAgg9
 z9 := Tryz.sizeOf9
 v9 := Tryz.zeroValue9
 t31 := Tryz.underlying30
 a31 := Tryz.isAgg30
 z31 := Tryz.sizeOf30
 v31 := Tryz.zeroValue30 }
def Tryz.laysInsG_ren : Go.Shelf.Ren := ⟨fun | 20 => 247 | n => n, fun | 24 => 133 | 22 => 69 | 3 => 3 | 25 => 192 | 4 => 4 | 0 => 0 | n => n, fun | n => n⟩
def Tryz.laysIdxG_ren : Go.Shelf.Ren := ⟨fun | 6 => 165 | n => n, fun | 22 => 69 | 23 => 133 | 25 => 189 | 3 => 3 | 0 => 0 | 4 => 4 | n => n, fun | n => n⟩
end Go.Proofs
end
section
namespace Go.Proofs.YtolgdibgnndoaaaGreat
open Go Go.Sx Go.RowKit Go.Proofs
def b5L (l : List Int) : List Int := l.mergeSort fun x y => decide (x ≤ y)
theorem lX {α : Type} [Inhabited α] [DecidableEq α] (d : Array α) : ∀ m, (Lib.compactUpTo d m).length ≤ m
 | 0 => by simp [Lib.compactUpTo]
 | m + 1 => by
  have := lX d m
  rw [Lib.compactUpTo_succ, List.length_append]
  split <;> simp <;> omega
def b5M (l : List Int) : List Int := Lib.compact l
def bl (s : ByteArray) : List UInt8 := s.data.toList
def lb (l : List UInt8) : ByteArray := ⟨l.toArray⟩
theorem b0c (l : List UInt8) : bl (lb l) = l := rfl
theorem a5q (s : ByteArray) : lb (bl s) = s := by cases s; simp [lb, bl]
def lZ (l : List (List UInt8)) : List (List UInt8) := l.mergeSort fun x y => decide (x ≤ y)
def pY (l : List ByteArray) : List ByteArray := (lZ (l.map bl)).map lb
def a2K (l : List ByteArray) : List ByteArray := (Lib.compact (l.map bl)).map lb
theorem zH (l : List ByteArray) : (pY l).length = l.length := by simp [pY, lZ, List.length_mergeSort]
theorem a3O (l : List ByteArray) : l.map eT = uY Go.Proofs.encStr (l.map bl) := by
 simp only [uY, List.map_map]
 refine List.map_congr_left fun s _ => ?_
 have h := a5q s
 simp only [lb] at h
 simp only [Function.comp, eT, Go.Proofs.encStr, h]
theorem a7w (l : List (List UInt8)) : (l.map lb).map eT = uY Go.Proofs.encStr l := by
 rw [a3O, List.map_map]
 congr 1
 simp [Function.comp_def, b0c]
theorem vH (x : List UInt8) : scalar (Go.Proofs.encStr x) = true := rfl
theorem a1A (l : List ByteArray) (hl : l.length ≤ 4611686018427387903) : FnI Tryz.prog 192 9 1 (l.map eT) [] true ((pY l).map eT) := by
 refine ⟨Tryz.call192, fun V w y S vs hm hrow hnd hlt hargs => ?_⟩
 have hvs : vs = [] := by have := hargs.1; simpa using this
 subst hvs
 rw [pY, a7w]
 rw [a3O] at hrow
 rcases scal_down (e := Go.Proofs.encStr) hrow with ⟨⟨ao, rfl⟩, hn, rfl⟩ | ⟨b, cap, c, rfl, h1, h2, h3, h4, h5, h6, rfl⟩
 ·refine (Any.slices_Sort_string_none Tryz.laysSortStr ao 0 w).mono ?_
  rintro e w' ⟨rfl, rfl⟩
  exact ⟨_, rfl, fun _ => rfl, ⟨⟨rfl, rfl, rfl, Nat.le_refl _, fun _ _ _ => rfl⟩, [], (by rw [hn] at hrow ⊢; simpa [lZ] using hrow), hnd, fun b hb => .inl hb, fun _ => rfl⟩⟩
 ·have hb : b < w.heap.size := (Array.getElem?_eq_some_iff.1 h3).1
  refine (Any.slices_Sort_string Tryz.laysSortStr b 0 cap (l.map bl) w h5 hb (by simp; omega)).mono ?_
  rintro e w' ⟨rfl, n, os, rfl⟩
  have hsl : (lZ (l.map bl)).length = (l.map bl).length := by simp [lZ, List.length_mergeSort]
  have hup := a7k (e := Go.Proofs.encStr) (l := lZ (l.map bl)) (d := (lZ (l.map bl)).toArray) vH h3 h4 h2 (by simp only [List.size_toArray, hsl]; exact h1) rfl (List.prefix_refl _) h6 (n := n) (os := os)
  rw [hsl] at hup
  exact ⟨_, rfl, fun _ => rfl, ⟨hup.2, [b], hup.1, hnd, fun b hb => .inl hb, fun _ => rfl⟩⟩
theorem vK (l : List ByteArray) (hl : l.length ≤ 4611686018427387903) : FnI Tryz.prog 193 9 1 (l.map eT) [] false ((a2K l).map eT) := by
 refine ⟨Tryz.call193, fun V w y S vs hm hrow hnd hlt hargs => ?_⟩
 have hvs : vs = [] := by have := hargs.1; simpa using this
 subst hvs
 rw [a2K, a7w]
 rw [a3O] at hrow
 rcases scal_down (e := Go.Proofs.encStr) hrow with ⟨⟨ao, rfl⟩, hn, rfl⟩ | ⟨b, cap, c, rfl, h1, h2, h3, h4, h5, h6, rfl⟩
 ·refine (Any.slices_Compact_string_empty Tryz.laysCompactStr ao 0 w).mono ?_
  rintro e w' ⟨rfl, rfl⟩
  exact ⟨_, rfl, fun h => (by cases h), ⟨⟨rfl, rfl, rfl, Nat.le_refl _, fun _ _ _ => rfl⟩, [], (by rw [hn] at hrow ⊢; exact hrow), hnd, fun b hb => .inl hb, fun _ => rfl⟩⟩
 ·have hb : b < w.heap.size := (Array.getElem?_eq_some_iff.1 h3).1
  refine (Any.slices_Compact_string Tryz.laysCompactStr b 0 cap (l.map bl) w h5 (by simp; omega) h1).mono ?_
  rintro e w' ⟨rfl, n, rfl⟩
  have hle : (Lib.compact (l.map bl)).length ≤ (l.map bl).length := lX _ _
  have hup := a7k (e := Go.Proofs.encStr) (l := Lib.compact (l.map bl)) (d := (Lib.compact (l.map bl) ++ List.replicate ((l.map bl).length - (Lib.compact (l.map bl)).length) []).toArray) (w' := Sort.putRow Go.Proofs.encStr (Sort.ahead w n) b 0 (Lib.compact (l.map bl) ++ List.replicate ((l.map bl).length - (Lib.compact (l.map bl)).length) []).toArray) vH h3 h4 h2 (by simp only [List.size_toArray, List.length_append, List.length_replicate]; omega) (by rw [Sort.grow_empty]) (by simp) h6 (n := n) (os := #[])
  exact ⟨_, rfl, fun h => (by cases h), ⟨hup.2, [b], hup.1, hnd, fun b hb => .inl hb, fun _ => rfl⟩⟩
end Go.Proofs.YtolgdibgnndoaaaGreat
end
section
set_option maxRecDepth 100000
set_option maxHeartbeats 4000000
namespace Go.Proofs.YtolgdibgnndoaaaGreat
open Go Go.Sx Go.RowKit Go.Proofs
def jN (l : List ByteArray) (s : ByteArray) : Bool := l.any fun x => decide (x = s)
theorem a8t (l : List ByteArray) (s : ByteArray) (k : Nat) (h : k < l.length) : jN (l.drop k) s = (decide (l[k] = s) || jN (l.drop (k + 1)) s) := by
 rw [List.drop_eq_getElem_cons h]; rfl
theorem kC (l : List ByteArray) (s : ByteArray) (hl : l.length ≤ 4300000) : FnC Tryz.prog 65 [.o (.d (.sl (l.map eT))), os s] (ob (jN l s)) := by
 refine ent Tryz.func65 rfl Tryz.call65 rfl (fun C => ?_); simp only [go_sem, st0, Tryz.ntmps65]
 refine aD ?_
 refine bC (α := Nat) (fun k => [(5, oi k)]) (fun k => []) (fun k => k ≤ l.length ∧ jN (l.drop k) s = jN l s) (fun k => l.length - k) 0 (fun _ => ?_) ?_ ?_ (fun k hk => ?_)
 ·simp only [go_sem]; try simp
 ·simp only [go_sem]; try simp
 ·simp
 ·simp only [go_sem]
  obtain ⟨hk, hg⟩ := hk
  refine aD ?_
  refine cnd rfl (fun h1 => ?_) (fun h1 => ?_)
  ·simp only [decide_eq_true_eq, Int.ofNat_lt] at h1
   have hd := a8t l s k h1
   rw [hg] at hd
   have q0 := @h1; refine iH ?_
   refine cnd rfl (fun hv => ?_) (fun hv => ?_)
   ·rw [hv, Bool.true_or] at hd
    refine aD ?_
    exact aA ⟨⟨_, rfl, by simp only [go_sem, hd]⟩, trivial⟩
   ·rw [hv, Bool.false_or] at hd
    refine aD ?_
    refine aF (k + 1) ?_ ?_ ?_
    ·simp only [go_sem]; try simp
    ·exact ⟨by omega, hd.symm⟩
    ·omega
  ·simp only [decide_eq_false_iff_not] at h1
   have e : k = l.length := by omega
   subst e
   have hn : jN l s = false := by rw [← hg, List.drop_length]; rfl
   refine aD ?_
   exact aA ⟨⟨_, rfl, by simp only [go_sem, hn]⟩, trivial⟩
theorem a8u (l : List ByteArray) (s : ByteArray) (hl : l.length ≤ 4300000) : FnC Tryz.prog 129 [.o (.d (.sl (l.map eT))), os s] (oi (fF (fun x => decide (s = x)) l 0)) := by
 refine ent Tryz.func129 rfl Tryz.call129 rfl (fun C => ?_); simp only [go_sem, st0, Tryz.ntmps129]
 refine aD ?_
 refine bC (α := Nat) (fun k => [(8, oi k)]) (fun _ => []) (fun k => k ≤ l.length ∧ fF (fun x => decide (s = x)) l 0 = fF (fun x => decide (s = x)) (l.drop k) k) (fun k => l.length - k) 0 (fun _ => ?_) ?_ ?_ (fun k hk => ?_)
 ·simp only [go_sem]
 ·simp only [go_sem]; simp
 ·simp
 ·obtain ⟨hk, hq⟩ := hk
  simp only [go_sem]
  refine aD ?_
  refine cnd rfl (fun h => ?_) (fun h => ?_)
  ·simp only [decide_eq_true_eq, Int.ofNat_lt] at h
   have hd := List.drop_eq_getElem_cons h
   rw [hd, fF] at hq
   have q0 := @h; refine iH ?_
   refine cnd rfl (fun h2 => ?_) (fun h2 => ?_)
   ·refine aD ?_
    exact aA ⟨⟨_, rfl, by simp only [go_sem, hq, h2]⟩, trivial⟩
   ·refine aD ?_
    refine aF (k + 1) ?_ ?_ ?_
    ·simp only [go_sem]; simp
    ·rw [hq, h2]; exact ⟨h, by simp⟩
    ·omega
  ·simp only [decide_eq_false_iff_not] at h
   have e : k = l.length := by omega
   subst e
   simp only [List.drop_length, fF] at hq
   refine aD ?_
   exact aA ⟨⟨_, rfl, by simp only [go_sem, hq]⟩, trivial⟩
theorem a1B {α : Type} (p : α → Bool) : ∀ (l : List α) (k : Nat), decide (0 ≤ fF p l k) = l.any p
 | [], _ => by simp [fF]
 | x :: xs, k => by
  simp only [fF, List.any_cons]
  by_cases h : p x = true
  ·simp [h]
  ·rw [Bool.not_eq_true] at h
   simpa [h] using a1B p xs (k + 1)
theorem b0d (l : List ByteArray) (s : ByteArray) : decide (0 ≤ fF (fun x => decide (s = x)) l 0) = jN l s := by
 rw [a1B]; unfold jN
 congr 1; funext x; congr 1; exact propext eq_comm
theorem fH (l : List ByteArray) (s : ByteArray) (hl : l.length ≤ 4300000) : FnC Tryz.prog 59 [.o (.d (.sl (l.map eT))), os s] (ob (jN l s)) := by
 refine ent Tryz.func59 rfl Tryz.call59 rfl (fun C => ?_); simp only [go_sem, st0, Tryz.ntmps59]
 refine jH (a8u l s hl) ?_
 exact aA ⟨⟨_, rfl, by simp only [go_sem, b0d]⟩, trivial⟩
def dirNs (l : List TDir) : List ByteArray := l.map TDir.fName
theorem a2L (l : List TDir) : (dirNs l).length = l.length := by simp [dirNs]
def uD (names : List ByteArray) (l : List TDir) : List ByteArray := (dirNs l).filter fun n => !jN names n
end Go.Proofs.YtolgdibgnndoaaaGreat
end
section
set_option maxRecDepth 100000
set_option maxHeartbeats 4000000
namespace Go.Sx
theorem uM {P : Program} {C : Ctx} {F : Ex → St → Prop} {st : St} {code : Code} (i id : Nat) {ty sz : Nat} {rows : List (List D)} {lin : Bool} (hi : nth st.t i = .o (.s id)) (hb : bP st.h id = .row ty sz rows lin) (h : WP P C code F ⟨a4u st.t i (.o (.d (.sl rows))), setH st.h id (.frz rows lin)⟩) : WP P C code F st := by
 intro g V a w hr
 obtain ⟨g', V', h1, h2, h3, h4, h5⟩ := hr.hp.frz hr.mod hr.fr.size (aJ hb (by simp))
 have hr1 : Rel C g' V' ⟨st.t, setH st.h id (.frz rows lin)⟩ a w := ⟨hr.sl.mono h1 h2, by rw [bV]; exact h4, h3, hr.fr, hr.vw.grow h2 h5⟩
 refine h g' V' a w ⟨⟨by rw [lF]; simpa using hr1.sl.size, fun n s y e1 e2 => ?_, hr1.sl.defers⟩, hr1.hp, hr1.mod, hr1.fr, hr1.vw⟩
 rw [lF, List.getElem?_set] at e1
 by_cases e : i = n
 ·subst e
  rw [if_pos rfl] at e1
  split at e1
  ·rename_i hlt
   cases e1
   have hs : st.t[i]? = some (.o (.s id)) := by
    rw [oG, List.getD_eq_getElem?_getD, List.getElem?_eq_getElem hlt] at hi
    rw [List.getElem?_eq_getElem hlt]
    exact congrArg some hi
   obtain ⟨gh, hgh, hy, _⟩ := hr1.sl.slot i _ y hs e2
   have hf : (setH st.h id (.frz rows lin))[id]? = some (.frz rows lin) := by
    have := aJ hb (by simp)
    rw [bV, List.getElem?_set]; simp [(List.getElem?_eq_some_iff.1 this).1]
   obtain ⟨_, S, q1, _⟩ := hr1.hp.hb id _ gh hf hgh
   exact ⟨S, by rw [hy]; exact q1⟩
  ·cases e1
 ·rw [if_neg e] at e1
  exact hr1.sl.slot n s y e1 e2
end Go.Sx
namespace Go.Proofs.YtolgdibgnndoaaaGreat
open Go Go.Sx Go.RowKit Go.Proofs
theorem wN {α : Type} [Inhabited α] [DecidableEq α] (d : Array α) : ∀ (m i : Nat), i < m → d[i]! ∈ Lib.compactUpTo d m
 | 0, i, h => by omega
 | m + 1, i, h => by
  rw [Lib.compactUpTo_succ]
  by_cases hi : i < m
  ·exact List.mem_append_left _ (wN d m i hi)
  ·have e : i = m := by omega
   subst e
   cases hk : Lib.keeps d i with
   | true => exact List.mem_append_right _ (by simp)
   | false =>
    have h0 : 0 < i := by
     rcases Nat.eq_zero_or_pos i with h | h
     ·subst h; rw [Lib.keeps_lt_one d 0 (by omega)] at hk; cases hk
     ·exact h
    have he : d[i]! = d[i - 1]! := Classical.byContradiction fun hn => by rw [Lib.keeps_pos hn] at hk; cases hk
    rw [he]
    exact List.mem_append_left _ (wN d i (i - 1) (by omega))
theorem a5p {α : Type} [Inhabited α] [DecidableEq α] (zs : List α) (x : α) : x ∈ Lib.compact zs ↔ x ∈ zs := by
 refine ⟨fun h => ?_, fun h => ?_⟩
 ·unfold Lib.compact Lib.compactUpTo at h
  obtain ⟨i, hi, rfl⟩ := List.mem_map.1 h
  have hi' : i < zs.length := List.mem_range.1 (List.mem_filter.1 hi).1
  simp [getElem!_pos, hi']
 ·obtain ⟨i, hi, rfl⟩ := List.mem_iff_getElem.1 h
  have := wN zs.toArray zs.length i hi
  have e : zs.toArray[i]! = zs[i] := by simp [getElem!_pos, hi]
  rw [e] at this
  exact this
def fQ (l : List ByteArray) : List ByteArray := a2K (pY l)
theorem a2J (l : List ByteArray) : (fQ l).length ≤ l.length := by
 have := lX ((pY l).map bl).toArray ((pY l).map bl).length
 simp only [fQ, a2K, Lib.compact, List.length_map, zH] at this ⊢
 exact this
theorem tN (l : List ByteArray) (s : ByteArray) : jN l s = true ↔ s ∈ l := by
 unfold jN
 rw [List.any_eq_true]
 constructor
 ·rintro ⟨x, h1, h2⟩; rw [of_decide_eq_true h2] at h1; exact h1
 ·intro h; exact ⟨s, h, by simp⟩
theorem pW (l : List ByteArray) (s : ByteArray) : s ∈ fQ l ↔ s ∈ l := by
 have e : (pY l).map bl = lZ (l.map bl) := by
  unfold pY
  rw [List.map_map]
  have : (bl ∘ lb) = id := by funext x; exact b0c x
  rw [this, List.map_id]
 unfold fQ a2K
 rw [e]
 constructor
 ·intro h
  obtain ⟨y, hy, rfl⟩ := List.mem_map.1 h
  rw [a5p, lZ, List.mem_mergeSort] at hy
  obtain ⟨z, hz, rfl⟩ := List.mem_map.1 hy
  rw [a5q]; exact hz
 ·intro h
  refine List.mem_map.2 ⟨bl s, ?_, a5q s⟩
  rw [a5p, lZ, List.mem_mergeSort]
  exact List.mem_map.2 ⟨s, h, rfl⟩
theorem a1V (l : List ByteArray) (hl : l.length ≤ 4300000) : FnC Tryz.prog 123 [.o (.d (.sl (l.map eT)))] (.o (.w 9 1 ((fQ l).map eT))) := by
 refine ent Tryz.func123 rfl Tryz.call123 rfl (fun C => ?_); simp only [go_sem, st0, Tryz.ntmps123]
 have qH := trivial; repeat' (with_reducible first | refine nY ?_ | (refine mX ?_; try simp only [go_sem]) | refine kD ?_ | refine rD ?_ | refine cP (a5c l hl) ?_ | refine vI (a1A l (by omega)) ?_ | refine vJ (a1A l (by omega)) ?_ | refine vI (vK (pY l) (by rw [zH]; omega)) ?_ | refine vJ (vK (pY l) (by rw [zH]; omega)) ?_ | refine aO ?_ | fail)
 exact aA ⟨⟨_, rfl, by simp only [go_sem, fQ]⟩, trivial⟩
def geS (s : ByteArray) (y : ByteArray) : Bool := !fM y s
def putS (l : List ByteArray) (s : ByteArray) : List ByteArray := if (l.drop (dW (geS s) l)).head? = some s then l else iP (dW (geS s) l) s l
def putL (l : List ByteArray) : List ByteArray := l.foldl putS []
theorem pX (l : List ByteArray) (s x : ByteArray) : x ∈ putS l s ↔ x = s ∨ x ∈ l := by
 unfold putS
 split
 ·rename_i h
  have : s ∈ l.drop (dW (geS s) l) := by
   cases hd : l.drop (dW (geS s) l) with
   | nil => rw [hd] at h; cases h
   | cons y r => rw [hd] at h; simp at h; simp [h]
  have hs := List.mem_of_mem_drop this
  constructor
  ·exact .inr
  ·rintro (rfl | h) <;> first | exact hs | exact h
 ·unfold iP
  conv => rhs; rw [← List.take_append_drop (dW (geS s) l) l]
  simp only [List.mem_append, List.mem_cons]
  constructor
  ·rintro (h | h | h) <;> first | exact .inr (.inl h) | exact .inl h | exact .inr (.inr h)
  ·rintro (h | h | h) <;> first | exact .inr (.inl h) | exact .inl h | exact .inr (.inr h)
theorem b0b (l : List ByteArray) (s : ByteArray) : (putS l s).length ≤ l.length + 1 := by
 unfold putS
 split
 ·omega
 ·rw [a2A _ _ _ (yC _ l)]; omega
theorem a1z (l : List ByteArray) (s : ByteArray) : putL (l ++ [s]) = putS (putL l) s := by simp [putL]
theorem a8q (l : List ByteArray) : ∀ (a : List ByteArray) (x : ByteArray), x ∈ l.foldl putS a ↔ x ∈ a ∨ x ∈ l := by
 induction l with
 | nil => simp
 | cons y l ih =>
  intro a x
  rw [List.foldl_cons, ih, pX]
  simp only [List.mem_cons]
  constructor
  ·rintro ((h | h) | h) <;> first | exact .inr (.inl h) | exact .inl h | exact .inr (.inr h)
  ·rintro (h | h | h) <;> first | exact .inl (.inr h) | exact .inl (.inl h) | exact .inr h
theorem nK (l : List ByteArray) (x : ByteArray) : x ∈ putL l ↔ x ∈ l := by rw [putL, a8q]; simp
theorem a8r (l : List ByteArray) : ∀ a : List ByteArray, (l.foldl putS a).length ≤ a.length + l.length := by
 induction l with
 | nil => simp
 | cons y l ih =>
  intro a
  have h1 := ih (putS a y)
  have h2 := b0b a y
  simp only [List.foldl_cons, List.length_cons]; omega
theorem lT (l : List ByteArray) : (putL l).length ≤ l.length := by have := a8r l []; simpa [putL] using this
theorem a8s {α : Type} (p : α → Bool) (l : List α) (k : Nat) (h : k < l.length) (hk : dW p l = k + dW p (l.drop k)) : dW p l = if p l[k] then k else k + 1 + dW p (l.drop (k + 1)) := by
 rw [hk, a1m p l k h]
 split <;> omega
theorem mM {α β : Type} (f : α → β) (l : List α) (n : Nat) : (l.map f).take n = (l.take n).map f := List.map_take.symm
theorem mO {α β : Type} (f : α → β) (l : List α) (n : Nat) : (l.map f).drop n = (l.drop n).map f := List.map_drop.symm
end Go.Proofs.YtolgdibgnndoaaaGreat
end
section
set_option maxRecDepth 100000
set_option maxHeartbeats 4000000
namespace Go.Proofs.YtolgdibgnndoaaaGreat
open Go Go.Sx Go.RowKit Go.Proofs
theorem b1y (l : List ByteArray) : ∀ r ∈ l.map eT, r.length = 1 := by intro r hr; obtain ⟨x, _, rfl⟩ := List.mem_map.1 hr; rfl
theorem uL (l : List ByteArray) (s : ByteArray) (hl : l.length ≤ 4300000) : FnC Tryz.prog 124 [.o (.d (.sl (l.map eT))), os s] (.o (.d (.sl ((putS l s).map eT)))) := by
 have hle := yC (geS s) l
 refine ent Tryz.func124 rfl Tryz.call124 rfl (fun C => ?_); simp only [go_sem, st0, Tryz.ntmps124]
 refine aD ?_
 refine bC (α := Nat) (fun k => [(5, oi k)]) (fun _ => []) (fun k => k ≤ l.length ∧ dW (geS s) l = k + dW (geS s) (l.drop k)) (fun k => l.length - k) 0 (fun _ => ?_) ?_ ?_ (fun k hk => ?_)
 ·simp only [go_sem]
 ·simp only [go_sem]; simp
 ·simp
 ·obtain ⟨hk, hf⟩ := hk
  simp only [go_sem]
  by_cases h1 : k < l.length
  ·have hfx := a8s (geS s) l k h1 hf
   have h1' : ((k : Int) < (l.length : Int)) = True := by simp [h1]
   have q0 := @h1; have q1 := @h1'; have q2 := @decide_true; refine kE ?_
   refine cnd (b := fM l[k] s) rfl (fun h2 => ?_) (fun h2 => ?_)
   ·rw [if_neg (by simp [geS, h2])] at hfx
    refine aD ?_
    refine aF (k + 1) ?_ ?_ ?_
    ·simp only [go_sem]; simp
    ·exact ⟨by omega, hfx⟩
    ·omega
   ·rw [if_pos (by simp [geS, h2])] at hfx
    have hd := List.drop_eq_getElem_cons h1
    by_cases h3 : l[k] = s
    ·have hput : putS l s = l := by unfold putS; rw [hfx, hd]; simp [h3]
     have q0 := @h1; have q1 := @h1'; have q2 := @h3; have q3 := @decide_true; refine kF ?_
     exact aA ⟨⟨_, rfl, by simp only [go_sem, hput]⟩, trivial⟩
    ·have hput : putS l s = iP k s l := by unfold putS; rw [hfx, hd]; exact if_neg (fun h => h3 (Option.some.inj h))
     have hn1 : ((0 : Int) ≤ (k : Int)) := by omega
     have qH := aI @h1 (aI @h1' (aI @h3 (aI @hn1 (aI @decide_true (aI @decide_false (aI @mM (aI @mO (aI @xO (aI @xP @a3z))))))))); repeat' (with_reducible first | refine nY ?_ | (refine mX ?_; try simp only [go_sem, qH]) | refine kD ?_ | refine rD ?_ | refine aO ?_ | fail)
     refine ⟨b1y l, by omega, by omega, by omega, ?_⟩
     have q0 := @mM; have q1 := @mO; have q2 := @xO; have q3 := @xP; have q4 := @a3z; refine sN ?_
     refine ⟨b1y l, by omega, by omega, by omega, ?_⟩
     have q0 := @mM; have q1 := @mO; have q2 := @xO; have q3 := @xP; have q4 := @a3z; refine sN ?_
     refine kS (Sees.frz 0 rfl) ?_
     simp only [go_sem]
     exact aA ⟨⟨_, rfl, by simp only [go_sem, hput, iP, List.take_length, List.map_append, List.map_cons, List.append_assoc, List.cons_append, List.nil_append]⟩, trivial⟩
  ·have e : k = l.length := by omega
   have hfx : dW (geS s) l = k := by rw [hf, e, List.drop_length]; rfl
   have hput : putS l s = iP k s l := by unfold putS; rw [hfx, e, List.drop_length]; simp
   have h1' : ((k : Int) < (l.length : Int)) = False := by simp [h1]
   have q0 := @h1; have q1 := @h1'; have q2 := @decide_false; have q3 := @mM; have q4 := @mO; have q5 := @xO; have q6 := @xP; have q7 := @a3z; refine a1d ?_
   refine ⟨b1y l, by omega, by omega, by omega, ?_⟩
   have q0 := @mM; have q1 := @mO; have q2 := @xO; have q3 := @xP; have q4 := @a3z; refine sN ?_
   refine ⟨b1y l, by omega, by omega, by omega, ?_⟩
   have q0 := @mM; have q1 := @mO; have q2 := @xO; have q3 := @xP; have q4 := @a3z; refine sN ?_
   refine kS (Sees.frz 0 rfl) ?_
   simp only [go_sem]
   exact aA ⟨⟨_, rfl, by simp only [go_sem, hput, iP, List.take_length, List.map_append, List.map_cons, List.append_assoc, List.cons_append, List.nil_append]⟩, trivial⟩
def b0a (l : List TAttr) : List ByteArray := l.map TAttr.fName
theorem a0w (l : List TDir) (hl : l.length ≤ 4300000) : FnC Tryz.prog 29 [.o (.d (.sl (l.map cO)))] (.o (.w 9 1 ((dirNs l).map eT))) := by
 refine ent Tryz.func29 rfl Tryz.call29 rfl (fun C => ?_); simp only [go_sem, st0, Tryz.ntmps29]
 refine aD ?_
 refine bC (α := Nat) (fun k => [(3, .o (.s 0)), (4, oi k), (5, .o .u)]) (fun k => [(0, .row 9 1 ((dirNs (l.take k)).map eT) true)]) (fun k => k ≤ l.length) (fun k => l.length - k) 0 (fun _ => ?_) ?_ ?_ (fun k hk => ?_)
 ·simp only [go_sem]
 ·simp only [go_sem]; simp [dirNs]
 ·simp
 ·simp only [go_sem]
  refine aD ?_
  refine cnd rfl (fun h1 => ?_) (fun h1 => ?_)
  ·simp only [decide_eq_true_eq, Int.ofNat_lt] at h1
   have ht : dirNs (l.take (k + 1)) = dirNs (l.take k) ++ [l[k].fName] := by simp only [dirNs, List.take_succ_eq_append_getElem h1, List.map_append, List.map_cons, List.map_nil]
   have hlen : (dirNs (l.take k)).length = k := by rw [a2L]; simp; omega
   have q0 := @h1; have q1 := @hlen; refine gQ ?_
   refine aF (k + 1) ?_ ?_ ?_
   ·simp only [go_sem, ht, List.map_append]; simp
   ·omega
   ·omega
  ·simp only [decide_eq_false_iff_not] at h1
   have e : k = l.length := by omega
   subst e
   refine aD ?_
   exact aA ⟨⟨_, rfl, by simp only [go_sem, List.take_length]⟩, trivial⟩
def eqV (x v : TValue) : Bool := decide (x.fKind = v.fKind) && (decide (x.fInt = v.fInt) && decide (x.fStr = v.fStr))
def a7v (a b : TFile) (n : ByteArray) : Bool := !(eqV (dE n a.fAttrs) (dE n b.fAttrs))
def chL (a b : TFile) (l : List ByteArray) : List ByteArray := l.filter (a7v a b)
def chg (a b : TFile) : List ByteArray := chL a b (b0a a.fAttrs ++ b0a b.fAttrs)
end Go.Proofs.YtolgdibgnndoaaaGreat
end
