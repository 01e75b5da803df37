/- Joined texts. -/
import Derived.Test.YtolgdibgnndoaaaZ13
import Derived.Test.YtolgdibgnndoaaaZ08
import Derived.Test.YtolgdibgnndoaaaZ12
import Derived.Sort.Walk0
import Derived.Test.YtolgdibgnndoaaaZ10
set_option linter.all false
section
namespace Go.Proofs.Ytolgdibgnndoaaa
open Go Go.Sx Go.RowKit Go.Proofs
def b0I (l : List Int) : List Int := l.mergeSort fun x y => decide (x ≤ y)
def b0J (l : List Int) : List Int := Lib.compact l
def bl (s : ByteArray) : List UInt8 := s.data.toList
def lb (l : List UInt8) : ByteArray := ⟨l.toArray⟩
theorem a7a (s : ByteArray) : lb (bl s) = s := by cases s; simp [lb, bl]
def a9p (l : List (List UInt8)) : List (List UInt8) := l.mergeSort fun x y => decide (x ≤ y)
def a9q (l : List ByteArray) : List ByteArray := (a9p (l.map bl)).map lb
def a9r (l : List ByteArray) : List ByteArray := (Lib.compact (l.map bl)).map lb
end Go.Proofs.Ytolgdibgnndoaaa
end
section
set_option maxRecDepth 100000
set_option maxHeartbeats 4000000
namespace Go.Sx
end Go.Sx
namespace Go.Proofs.Ytolgdibgnndoaaa
open Go Go.Sx Go.RowKit Go.Proofs
def b0H (l : List ByteArray) : List ByteArray := a9r (a9q l)
def geS (s : ByteArray) (y : ByteArray) : Bool := !fU y s
def b0w (l : List ByteArray) (s : ByteArray) : List ByteArray := if (l.drop (bM (geS s) l)).head? = some s then l else dI (bM (geS s) l) s l
def b0Q (l : List ByteArray) : List ByteArray := l.foldl b0w []
end Go.Proofs.Ytolgdibgnndoaaa
end
section
namespace Go.Sx.Clos
section
variable {β : Type} [DecidableEq β]
def b0u (E : List (β × List β)) (S : List β) : Prop := ∀ e ∈ E, (∃ x ∈ e.2, x ∈ S) → e.1 ∈ S
def wsm (w : β → Nat) : List β → Nat
 | [] => 0
 | x :: l => w x + wsm w l
def a8f (w : β → Nat) : List (β × List β) → List β → Nat
 | [], _ => 0
 | e :: E, S => (if e.1 ∈ S then 0 else w e.1) + a8f w E S
variable (put : List β → β → List β)
def b0v (name : β) (out asks : List β) : List β := asks.foldl (fun o a => if a ∈ o then put o name else o) out
def round (E : List (β × List β)) (S : List β) : List β := E.foldl (fun o e => b0v put e.1 o e.2) S
def a8g (E : List (β × List β)) : Nat → List β → List β
 | 0, S => S
 | n + 1, S => round put E (a8g E n S)
variable {put} (hput : ∀ l s x, x ∈ put l s ↔ x = s ∨ x ∈ l)
include hput
omit hput
end
end Go.Sx.Clos
namespace Go.Proofs.Ytolgdibgnndoaaa
open Go Go.Sx Go.RowKit Go.Proofs
theorem a8h {x y : ByteArray} (h : bl x = bl y) : x = y := by rw [← a7a x, ← a7a y, h]
def ltS (x y : ByteArray) : Prop := bl x < bl y
theorem mD (x y : ByteArray) : fU x y = true ↔ ltS x y := by
 unfold fU ltS bl
 rw [Go.Proofs.bytesLess_eq, decide_eq_true_eq, ByteArray.toList_eq, ByteArray.toList_eq]
theorem a2K (x : ByteArray) : ¬ ltS x x := List.lt_irrefl (bl x)
theorem a4i (x y z : ByteArray) (h : ltS x y) (k : ltS y z) : ltS x z := List.lt_trans h k
theorem a8i {x y : List UInt8} (h : x ≤ y) (k : x ≠ y) : x < y := Classical.byContradiction fun hn => k (List.le_antisymm h (List.not_lt.1 hn))
theorem a6Q {x y : ByteArray} (h : ¬ ltS x y) (k : x ≠ y) : ltS y x := a8i (List.not_lt.1 h) fun e => k (a8h e).symm
end Go.Proofs.Ytolgdibgnndoaaa
end
section
set_option maxRecDepth 100000
set_option maxHeartbeats 4000000
namespace Go.Proofs.Ytolgdibgnndoaaa
open Go Go.Sx Go.RowKit Go.Proofs Go.Sx.Clos
abbrev nmE (l : List TAttr) : List ByteArray := l.map TAttr.fName
abbrev ltN (x y : TAttr) : Prop := ltS x.fName y.fName
theorem zM (x v : TValue) : lX x v = true ↔ x = v := by
 unfold lX
 obtain ⟨a, b, c⟩ := x
 obtain ⟨d, e, f⟩ := v
 simp
theorem uF (a : List TAttr) (x : TAttr) : dY a x = true ↔ ∃ y ∈ a, y.fName = x.fName ∧ y.fValue ≠ x.fValue := by
 unfold dY
 rw [List.any_eq_true]
 constructor
 ·rintro ⟨y, hy, h⟩
  simp only [Bool.and_eq_true, decide_eq_true_eq, Bool.not_eq_true'] at h
  refine ⟨y, hy, h.1, fun e => ?_⟩
  rw [(zM _ _).2 e] at h
  exact absurd h.2 (by simp)
 ·rintro ⟨y, hy, h1, h2⟩
  refine ⟨y, hy, ?_⟩
  have h3 : lX y.fValue x.fValue = false := by
   cases hq : lX y.fValue x.fValue
   ·rfl
   ·exact absurd ((zM _ _).1 hq) h2
  simp [h1, h3]
theorem zN (a : List TAttr) (x : TAttr) : fO a x = true ↔ ∃ y ∈ a, y.fName = x.fName := by
 unfold fO
 rw [List.any_eq_true]
 simp
theorem sU {x y : TAttr} (p : TAttr → Bool) (l : List TAttr) : y ∈ dI (bM p l) x l ↔ y = x ∨ y ∈ l := by
 unfold dI
 constructor
 ·intro h
  rcases List.mem_append.1 h with h | h
  ·exact .inr (List.mem_of_mem_take h)
  ·rcases List.mem_cons.1 h with h | h
   ·exact .inl h
   ·exact .inr (List.mem_of_mem_drop h)
 ·intro h
  rcases h with rfl | h
  ·exact List.mem_append.2 (.inr (List.mem_cons_self ..))
  ·have : y ∈ l.take (bM p l) ++ l.drop (bM p l) := by rw [List.take_append_drop]; exact h
   rcases List.mem_append.1 this with h | h
   ·exact List.mem_append.2 (.inl h)
   ·exact List.mem_append.2 (.inr (List.mem_cons_of_mem _ h))
theorem uW (x : TAttr) : ∀ (l : List TAttr), l.Pairwise ltN → (∀ y ∈ l, y.fName ≠ x.fName) → (dI (bM (bY x.fName) l) x l).Pairwise ltN
 | [], _, _ => by simp [dI]
 | y :: l, h, hn => by
  rw [List.pairwise_cons] at h
  obtain ⟨h1, h2⟩ := h
  have hy := hn y (List.mem_cons_self ..)
  by_cases hlt : ltS y.fName x.fName
  ·have hb : bY x.fName y = false := by unfold bY; rw [(mD _ _).2 hlt]; rfl
   have e : bM (bY x.fName) (y :: l) = bM (bY x.fName) l + 1 := by rw [bM, hb]; rfl
   have ih := uW x l h2 (fun z hz => hn z (List.mem_cons_of_mem _ hz))
   have e2 : dI (bM (bY x.fName) (y :: l)) x (y :: l) = y :: dI (bM (bY x.fName) l) x l := by rw [e]; simp [dI]
   rw [e2, List.pairwise_cons]
   refine ⟨fun z hz => ?_, ih⟩
   rcases (sU _ l).1 hz with rfl | hz
   ·exact hlt
   ·exact h1 _ hz
  ·have hb : bY x.fName y = true := by
    have h3 : fU y.fName x.fName = false := by
     cases hq : fU y.fName x.fName
     ·rfl
     ·exact absurd ((mD _ _).1 hq) hlt
    unfold bY; rw [h3]; rfl
   have e : bM (bY x.fName) (y :: l) = 0 := by unfold bM; rw [hb]; rfl
   have hxy := a6Q hlt hy
   rw [e]
   simp only [dI, List.take_zero, List.drop_zero, List.nil_append, List.pairwise_cons, List.mem_cons]
   refine ⟨fun z hz => ?_, h1, h2⟩
   rcases hz with rfl | hz
   ·exact hxy
   ·exact a4i _ _ _ hxy (h1 z hz)
theorem merge_spec (a : List TAttr) : ∀ (b l : List TAttr), b.Pairwise ltN → l.Pairwise ltN → (∀ y ∈ a, y ∈ l) → (∀ y ∈ l, y ∈ a ∨ ∀ x ∈ b, y.fName ≠ x.fName) →
    (mergeL a l b = none ∧ ∃ x ∈ b, dY a x = true) ∨ ∃ r, mergeL a l b = some r ∧ (∀ x ∈ b, dY a x = false) ∧ r.Pairwise ltN ∧ (∀ y, y ∈ r ↔ y ∈ l ∨ y ∈ b) ∧ l.length ≤ r.length ∧ r.length ≤ l.length + b.length
 | [], l, _, hl, _, _ => .inr ⟨l, rfl, by simp, hl, by simp, Nat.le_refl _, by simp⟩
 | x :: b, l, hb, hl, ha, hn => by
  rw [List.pairwise_cons] at hb
  obtain ⟨hb1, hb2⟩ := hb
  rw [mergeL]
  by_cases h1 : dY a x = true
  ·rw [if_pos h1]
   exact .inl ⟨rfl, x, List.mem_cons_self .., h1⟩
  rw [if_neg h1]
  have h1' : dY a x = false := by simpa using h1
  by_cases h2 : fO a x = true
  ·rw [if_pos h2]
   obtain ⟨y, hy, hyn⟩ := (zN a x).1 h2
   have hxy : y = x := by
    have h3 : y.fValue = x.fValue := Classical.byContradiction fun h3 => h1 ((uF a x).2 ⟨y, hy, hyn, h3⟩)
    obtain ⟨n, v⟩ := y
    obtain ⟨n', v'⟩ := x
    simp only at hyn h3
    subst hyn h3
    rfl
   subst hxy
   rcases merge_spec a b l hb2 hl ha (fun z hz => (hn z hz).imp id fun h x hx => h x (List.mem_cons_of_mem _ hx)) with ⟨e, z, hz, hc⟩ | ⟨r, e, hc, hs, hm, hl1, hl2⟩
   ·exact .inl ⟨e, z, List.mem_cons_of_mem _ hz, hc⟩
   ·refine .inr ⟨r, e, ?_, hs, fun z => ?_, hl1, by simp only [List.length_cons]; omega⟩
    ·intro z hz
     rcases List.mem_cons.1 hz with rfl | hz
     ·exact h1'
     ·exact hc z hz
    ·rw [hm, List.mem_cons]
     constructor
     ·rintro (h | h)
      ·exact .inl h
      ·exact .inr (.inr h)
     ·rintro (h | rfl | h)
      ·exact .inl h
      ·exact .inl (ha _ hy)
      ·exact .inr h
  rw [if_neg h2]
  have hk : ∀ y ∈ l, y.fName ≠ x.fName := fun y hy e => by
   rcases hn y hy with h | h
   ·exact h2 ((zN a x).2 ⟨y, h, e⟩)
   ·exact h x (List.mem_cons_self ..) e
  rcases merge_spec a b (dI (bM (bY x.fName) l) x l) hb2 (uW x l hl hk) (fun y hy => (sU _ l).2 (.inr (ha y hy))) (fun z hz => by
   rcases (sU _ l).1 hz with rfl | hz
   ·exact .inr fun w hw e => by
     have := hb1 w hw
     unfold ltN at this
     rw [e] at this
     exact a2K _ this
   ·exact (hn z hz).imp id fun h w hw => h w (List.mem_cons_of_mem _ hw)) with ⟨e, z, hz, hc⟩ | ⟨r, e, hc, hs, hm, hl1, hl2⟩
  ·exact .inl ⟨e, z, List.mem_cons_of_mem _ hz, hc⟩
  ·have hle := lW (bY x.fName) l
   rw [jR _ _ _ hle] at hl1 hl2
   refine .inr ⟨r, e, ?_, hs, fun z => ?_, by omega, by simp only [List.length_cons]; omega⟩
   ·intro z hz
    rcases List.mem_cons.1 hz with rfl | hz
    ·exact h1'
    ·exact hc z hz
   ·rw [hm, sU, List.mem_cons]
    constructor
    ·rintro ((h | h) | h)
     ·exact .inr (.inl h)
     ·exact .inl h
     ·exact .inr (.inr h)
    ·rintro (h | h | h)
     ·exact .inl (.inr h)
     ·exact .inl (.inl h)
     ·exact .inr h
theorem merge_top (a b : List TAttr) (ha : a.Pairwise ltN) (hb : b.Pairwise ltN) :
    (mergeL a a b = none ∧ ∃ x ∈ b, ∃ y ∈ a, y.fName = x.fName ∧ y.fValue ≠ x.fValue) ∨ ∃ r, mergeL a a b = some r ∧ (∀ x ∈ b, ∀ y ∈ a, y.fName = x.fName → y.fValue = x.fValue) ∧ r.Pairwise ltN ∧ (∀ y, y ∈ r ↔ y ∈ a ∨ y ∈ b) ∧ a.length ≤ r.length ∧ r.length ≤ a.length + b.length := by
 rcases merge_spec a b a hb ha (fun y h => h) (fun y h => .inl h) with ⟨e, x, hx, hc⟩ | ⟨r, e, hc, h⟩
 ·exact .inl ⟨e, x, hx, (uF a x).1 hc⟩
 ·refine .inr ⟨r, e, fun x hx y hy hn => Classical.byContradiction fun hv => ?_, h⟩
  have := (uF a x).2 ⟨y, hy, hn, hv⟩
  rw [hc x hx] at this
  simp at this
theorem sV {e : TEdit} (h : oP e) : e.fSet.Pairwise ltN := by
 have h1 : nm4.Pairwise ltS := by
  simp only [nm4, List.pairwise_cons, List.mem_cons, List.not_mem_nil, or_false, false_or, List.Pairwise.nil, and_true]
  refine ⟨?_, ?_, ?_, ?_⟩
  ·rintro x (rfl | rfl | rfl) <;> exact (mD _ _).1 (by decide +kernel)
  ·rintro x (rfl | rfl) <;> exact (mD _ _).1 (by decide +kernel)
  ·rintro x rfl; exact (mD _ _).1 (by decide +kernel)
  ·simp
 have h2 : (e.fSet.map TAttr.fName).Pairwise ltS := h1.sublist h.1
 rw [List.pairwise_map] at h2
 exact h2
theorem lZ {e : TEdit} (h : oP e) : e.fSet.length ≤ 4 := by
 have := h.1.length_le
 simpa [nm4] using this
theorem a0I {a b : TEdit} (ha : oP a) (hb : oP b) (h : (dG a b).fOK = true) : a.fOK = true ∧ b.fOK = true ∧ a.fSet.length ≤ (dG a b).fSet.length ∧ (dG a b).fSet.length ≤ a.fSet.length + b.fSet.length := by
 have sa := sV ha
 have sb := sV hb
 unfold dG at h ⊢
 by_cases g : (a.fOK && b.fOK) = true
 ·have g2 := g
  rw [Bool.and_eq_true] at g2
  rw [if_pos g] at h ⊢
  rcases merge_top a.fSet b.fSet sa sb with ⟨e, _⟩ | ⟨r, e, _, _, _, h1, h2⟩
  ·rw [e] at h; simp at h
  ·rw [e]; exact ⟨g2.1, g2.2, h1, h2⟩
 ·rw [if_neg g] at h; simp at h
theorem a2J {a b : TEdit} (ha : oP a) (hb : oP b) : (dG a b).fSet.length ≤ 8 := by
 cases h : (dG a b).fOK
 ·unfold dG at h ⊢
  split
  ·rename_i g
   rw [if_pos g] at h
   split
   ·simp
   ·rename_i l e
    rw [e] at h; simp at h
  ·simp
 ·have := a0I ha hb h
  have := lZ ha
  have := lZ hb
  omega
theorem sW (l : List TAttr) (hl : l.length ≤ 1048576) : FnC Try.prog 60 [.o (.d (.sl (l.map aM))), .o (.d (.sl (l.map aM)))] (ob true) := by
 refine ent Try.func60 rfl Try.call60 rfl (fun C => ?_); simp only [go_sem, st0, Try.ntmps60]
 have h0 : decide ((l.length : Int) = (l.length : Int)) = true := by simp
 have q0 := @h0; have q1 := @a8C; refine jH ?_
 refine eY (α := Nat) (fun k => [(5, oi k)]) (fun _ => []) (fun k => k ≤ l.length) (fun k => l.length - k) 0 (fun _ => ?_) ?_ ?_ (fun k hk => ?_)
 ·simp only [go_sem]
 ·simp only [go_sem]; simp
 ·simp
 ·simp only [go_sem]
  refine aF ?_
  refine cnd rfl (fun h => ?_) (fun h => ?_)
  ·simp only [decide_eq_true_eq, Int.ofNat_lt] at h
   have q0 := @h; refine gU ?_
   refine bE (k + 1) ?_ ?_ ?_
   ·simp only [go_sem]; simp
   ·exact h
   ·omega
  ·refine aF ?_
   exact aA ⟨⟨_, rfl, by simp only [go_sem]⟩, trivial⟩
theorem oO (e : TEdit) (hl : e.fSet.length ≤ 1048576) : FnC Try.prog 23 [gN e, gN e] (ob true) := by
 refine ent Try.func23 rfl Try.call23 rfl (fun C => ?_); simp only [go_sem, st0, Try.ntmps23]
 have h0 : decide (e.fOK = e.fOK) = true := by simp
 have h1 : (e.fOK == e.fOK) = true := by simp
 have q0 := @h0; have q1 := @h1; refine a2r (sW e.fSet hl) ?_
 exact aA ⟨⟨_, rfl, by simp only [go_sem]⟩, trivial⟩
end Go.Proofs.Ytolgdibgnndoaaa
end
section
set_option maxRecDepth 100000
set_option maxHeartbeats 4000000
namespace Go.Proofs.Ytolgdibgnndoaaa
open Go Go.Sx Go.RowKit Go.Proofs
def mtQ (q : List TNode) (R : List TResult) (f : TFile) : Bool := okQ q && mt q f R q.length (q.length - 1)
theorem xZ (q : List TNode) (f : TFile) (R : List TResult) (hq : eD q ≤ 4300000) (hf : dM f ≤ 4300000) (hR : cK R ≤ 67108864) : FnC Try.prog 31 [.o (.d (.sl (q.map bA))), eH f, .o (.d (.sl (R.map bH)))] (ob (mtQ q R f)) := by
 refine ent Try.func31 rfl Try.call31 rfl (fun C => ?_); simp only [go_sem, st0, Try.ntmps31]
 cases hv : okQ q
 ·have q0 := @hv; refine yF (cZ q hq) ?_
  exact aA ⟨⟨_, rfl, by simp only [go_sem, mtQ, hv, Bool.false_and]⟩, trivial⟩
 ·have hl := jI hv
  have hx : (q.length : Int) - 1 = ((q.length - 1 : Nat) : Int) := by omega
  have q0 := @hv; have q1 := @hx; refine a4Q (cZ q hq) (tF q f R hv hf hR q.length (q.length - 1) (by omega) (by omega)) ?_
  exact aA ⟨⟨_, rfl, by simp only [go_sem, mtQ, hv, Bool.true_and]⟩, trivial⟩
theorem a6R (f : TFile) (e : TEdit) : dM (iP f e) ≤ dM f + fB e := by
 have h := xG f.fAttrs e.fSet e.fSet.length
 rw [List.take_length] at h
 exact h
def cjQ (x : Int) : List TNode := [⟨3, 0, 0, ⟨#[97]⟩, ⟨1, x, ⟨#[]⟩⟩⟩, ⟨3, 0, 0, ⟨#[116]⟩, ⟨2, 0, ⟨#[114, 101, 100]⟩⟩⟩, ⟨6, 0, 1, ⟨#[]⟩, ⟨0, 0, ⟨#[]⟩⟩⟩]
def a8j : List TNode := [⟨2, 0, 0, ⟨#[116]⟩, ⟨0, 0, ⟨#[]⟩⟩⟩]
def cjF (z : Int) : TFile := iT amF ⟨#[97]⟩ ⟨1, z, ⟨#[]⟩⟩
def b0K (x : Int) (f : TFile) (n : Nat) : Prop :=
 (dR (cjQ x) f [] true).fOK = true ∧ (dR (cjQ x) f [] true).fSet.length = n ∧ mtQ (cjQ x) [] (iP f (dR (cjQ x) f [] true)) = true ∧
 (dR a8j (iP f (dR (cjQ x) f [] true)) [] false).fOK = true ∧ mtQ a8j [] (iP (iP f (dR (cjQ x) f [] true)) (dR a8j (iP f (dR (cjQ x) f [] true)) [] false)) = false
@[go_sem] def nmD : List ByteArray := [⟨#[100, 97]⟩, ⟨#[100, 98]⟩, ⟨#[100, 99]⟩, ⟨#[100, 100]⟩]
structure ansD (k : Nat) (r : List TResult) : Prop where
 len : r.length ≤ k
 w : dD iX r ≤ 9 * k
theorem a3S {α : Type} (w : α → Nat) (l : List α) (x : α) : dD w (l ++ [x]) = dD w l + w x := by
 induction l with
 | nil => simp [dD]
 | cons y l ih => simp only [List.cons_append, dD, ih]; omega
theorem rU {k : Nat} {r : List TResult} {nm : ByteArray} {x : List Int} (h : ansD k r) (hn : nm.size ≤ 2) (hx : idsD 8 x) : ansD (k + 1) (r ++ [⟨nm, x⟩]) := by
 have h1 := h.len
 have h2 := h.w
 have h3 := hx.len
 refine ⟨by simp; omega, ?_⟩
 rw [a3S]
 simp only [iX]
 omega
theorem a1o (r : List D) (rs : List (List D)) : dW (r :: rs) 0 = r := rfl
theorem a1p (r : List D) (rs : List (List D)) (n : Nat) : dW (r :: rs) (n + 1) = dW rs n := rfl
theorem pW {l : List Int} (hl : gM l) : Drw l 89 [] (fun r : List TResult => ansD 5 r) (fun r => .o (.d (.sl (r.map bH)))) := by
 intro i h hi hh; refine mW Try.func89 rfl Try.call89 rfl (fun C b => ?_); simp only [go_sem, Try.ntmps89]
 refine aF ?_
 refine a7A 1 rfl ?_
 simp only [go_sem]
 refine eY (α := Nat × List TResult × Nat × Int) (fun x => [(3, .o (.s 1)), (4, oi x.1), (12, .o .u), (5, .o .u)]) (fun x => [(0, .pin b 127 [.sl (l.map mV), iv x.2.2.1, iv x.2.2.2]), (1, .row 154 2 (x.2.1.map bH) false)]) (fun x => (x.1 ≤ 4 ∧ ansD x.1 x.2.1) ∧ (x.2.2.1 ≤ l.length ∧ inR .i64 x.2.2.2)) (fun x => 5 - x.1) (0, [], i, h) (fun _ => ?_) ?_ ?_ (fun x hx => ?_)
 ·simp only [go_sem]
 ·simp only [go_sem]; simp
 ·exact ⟨⟨by simp, by simp, by simp [dD]⟩, hi, hh⟩
 ·obtain ⟨k, r, i, h⟩ := x
  obtain ⟨⟨k4, hr⟩, hi, hh⟩ := hx
  simp only at k4 hr hi hh
  have hlen := hr.len
  have hl1 : r.length + 1 ≤ 140737488355328 := by omega
  have hl2 : (r.length + 1) * 40 ≤ 140737488355328 := by omega
  simp only [go_sem]
  refine aF ?_
  first | (refine aY (aH hl 5 (by decide) (by decide) i h hi hh) ⟨rfl, rfl⟩ ?_ rfl ?_; (focus first | rfl | (simp only [go_sem]; done))) | (refine hZ (aH hl 5 (by decide) (by decide) i h hi hh) ⟨rfl, rfl⟩ ?_ rfl ?_; (focus first | rfl | (simp only [go_sem]; done)))
  clear hi hh; rintro ⟨x, i, h⟩ ⟨hx, hi, hh⟩; simp only at hx hi hh; simp only [go_sem]
  refine aF ?_
  refine cnd rfl (fun hlt => ?_) (fun hlt => ?_)
  ·simp only [decide_eq_true_eq] at hlt
   have hk4 : k = 0 ∨ k = 1 ∨ k = 2 ∨ k = 3 := by omega
   have hnm : ∀ s ∈ nmD, s.size ≤ 2 := by decide +kernel
   rcases hk4 with rfl | rfl | rfl | rfl
   ·have qH := aI @hl1 (aI @hl2 (aI @a1o @a1p)); repeat' (with_reducible first | refine nY ?_ | (refine mX ?_; try simp only [go_sem, qH]) | refine kD ?_ | (apply rF [1,6,8,9,10] [10] [0,2,5] [0,2,5] ((.c 1 [3,4] [0,2,3,4,5] (.c 6 [7] [0,2,3,4,7] (.c 8 [] [0] (.c 9 [] [] (.c 10 [] [] .n .n) .n) .n) .n) (.c 6 [] [0,2] (.c 1 [3,4,7] [0,2,3,4,7] (.c 8 [] [0] (.c 9 [] [] (.c 10 [] [] .n .n) .n) .n) .n) .n))) (by simp only [go_sem]; rfl) (by simp only [go_sem]; rfl) (by simp only [go_sem]; rfl) (by decide +kernel); (focus simp only [go_sem]; done)) | exact bP | refine aU (uX ?_) ?_ | refine aV (aX ?_) ?_ | refine aW (aX ?_) ?_ | exact bU | exact oH | exact uB | refine rD ?_ | refine aO ?_ | fail)
    all_goals
     (skip
      first | (refine aY (gW hl i h hi hh) ⟨rfl, rfl⟩ ?_ rfl ?_; (focus first | rfl | (simp only [go_sem]; done))) | (refine hZ (gW hl i h hi hh) ⟨rfl, rfl⟩ ?_ rfl ?_; (focus first | rfl | (simp only [go_sem]; done)))
      clear hi hh; rintro ⟨x2, i, h⟩ ⟨hx2, hi, hh⟩; simp only at hx2 hi hh; simp only [go_sem]
      have qH := aI @hl1 (aI @hl2 (aI @a1o @a1p)); repeat' (with_reducible first | refine nY ?_ | (refine mX ?_; try simp only [go_sem, qH]) | refine kD ?_ | exact bP | refine aU (uX ?_) ?_ | refine aV (aX ?_) ?_ | refine aW (aX ?_) ?_ | exact uB | refine rD ?_ | refine aO ?_ | fail)
      refine bE (1, r ++ [⟨⟨#[100, 97]⟩, x2⟩], i, h) ?_ ?_ ?_
      ·simp only [go_sem, List.map_append]; try simp [bH]
      ·exact ⟨⟨by simp only; omega, rU hr (hnm _ (by simp [nmD])) hx2⟩, hi, hh⟩
      ·simp only; omega)
   ·have qH := aI @hl1 (aI @hl2 (aI @a1o @a1p)); repeat' (with_reducible first | refine nY ?_ | (refine mX ?_; try simp only [go_sem, qH]) | refine kD ?_ | (apply rF [1,6,8,9,10] [10] [0,2,5] [0,2,5] ((.c 1 [3,4] [0,2,3,4,5] (.c 6 [7] [0,2,3,4,7] (.c 8 [] [0] (.c 9 [] [] (.c 10 [] [] .n .n) .n) .n) .n) (.c 6 [] [0,2] (.c 1 [3,4,7] [0,2,3,4,7] (.c 8 [] [0] (.c 9 [] [] (.c 10 [] [] .n .n) .n) .n) .n) .n))) (by simp only [go_sem]; rfl) (by simp only [go_sem]; rfl) (by simp only [go_sem]; rfl) (by decide +kernel); (focus simp only [go_sem]; done)) | exact bP | refine aU (uX ?_) ?_ | refine aV (aX ?_) ?_ | refine aW (aX ?_) ?_ | exact bU | exact oH | exact uB | refine rD ?_ | refine aO ?_ | fail)
    all_goals
     (skip
      first | (refine aY (gW hl i h hi hh) ⟨rfl, rfl⟩ ?_ rfl ?_; (focus first | rfl | (simp only [go_sem]; done))) | (refine hZ (gW hl i h hi hh) ⟨rfl, rfl⟩ ?_ rfl ?_; (focus first | rfl | (simp only [go_sem]; done)))
      clear hi hh; rintro ⟨x2, i, h⟩ ⟨hx2, hi, hh⟩; simp only at hx2 hi hh; simp only [go_sem]
      have qH := aI @hl1 (aI @hl2 (aI @a1o @a1p)); repeat' (with_reducible first | refine nY ?_ | (refine mX ?_; try simp only [go_sem, qH]) | refine kD ?_ | exact bP | refine aU (uX ?_) ?_ | refine aV (aX ?_) ?_ | refine aW (aX ?_) ?_ | exact uB | refine rD ?_ | refine aO ?_ | fail)
      refine bE (2, r ++ [⟨⟨#[100, 98]⟩, x2⟩], i, h) ?_ ?_ ?_
      ·simp only [go_sem, List.map_append]; try simp [bH]
      ·exact ⟨⟨by simp only; omega, rU hr (hnm _ (by simp [nmD])) hx2⟩, hi, hh⟩
      ·simp only; omega)
   ·have qH := aI @hl1 (aI @hl2 (aI @a1o @a1p)); repeat' (with_reducible first | refine nY ?_ | (refine mX ?_; try simp only [go_sem, qH]) | refine kD ?_ | (apply rF [1,6,8,9,10] [10] [0,2,5] [0,2,5] ((.c 1 [3,4] [0,2,3,4,5] (.c 6 [7] [0,2,3,4,7] (.c 8 [] [0] (.c 9 [] [] (.c 10 [] [] .n .n) .n) .n) .n) (.c 6 [] [0,2] (.c 1 [3,4,7] [0,2,3,4,7] (.c 8 [] [0] (.c 9 [] [] (.c 10 [] [] .n .n) .n) .n) .n) .n))) (by simp only [go_sem]; rfl) (by simp only [go_sem]; rfl) (by simp only [go_sem]; rfl) (by decide +kernel); (focus simp only [go_sem]; done)) | exact bP | refine aU (uX ?_) ?_ | refine aV (aX ?_) ?_ | refine aW (aX ?_) ?_ | exact bU | exact oH | exact uB | refine rD ?_ | refine aO ?_ | fail)
    all_goals
     (skip
      first | (refine aY (gW hl i h hi hh) ⟨rfl, rfl⟩ ?_ rfl ?_; (focus first | rfl | (simp only [go_sem]; done))) | (refine hZ (gW hl i h hi hh) ⟨rfl, rfl⟩ ?_ rfl ?_; (focus first | rfl | (simp only [go_sem]; done)))
      clear hi hh; rintro ⟨x2, i, h⟩ ⟨hx2, hi, hh⟩; simp only at hx2 hi hh; simp only [go_sem]
      have qH := aI @hl1 (aI @hl2 (aI @a1o @a1p)); repeat' (with_reducible first | refine nY ?_ | (refine mX ?_; try simp only [go_sem, qH]) | refine kD ?_ | exact bP | refine aU (uX ?_) ?_ | refine aV (aX ?_) ?_ | refine aW (aX ?_) ?_ | exact uB | refine rD ?_ | refine aO ?_ | fail)
      refine bE (3, r ++ [⟨⟨#[100, 99]⟩, x2⟩], i, h) ?_ ?_ ?_
      ·simp only [go_sem, List.map_append]; try simp [bH]
      ·exact ⟨⟨by simp only; omega, rU hr (hnm _ (by simp [nmD])) hx2⟩, hi, hh⟩
      ·simp only; omega)
   ·have qH := aI @hl1 (aI @hl2 (aI @a1o @a1p)); repeat' (with_reducible first | refine nY ?_ | (refine mX ?_; try simp only [go_sem, qH]) | refine kD ?_ | (apply rF [1,6,8,9,10] [10] [0,2,5] [0,2,5] ((.c 1 [3,4] [0,2,3,4,5] (.c 6 [7] [0,2,3,4,7] (.c 8 [] [0] (.c 9 [] [] (.c 10 [] [] .n .n) .n) .n) .n) (.c 6 [] [0,2] (.c 1 [3,4,7] [0,2,3,4,7] (.c 8 [] [0] (.c 9 [] [] (.c 10 [] [] .n .n) .n) .n) .n) .n))) (by simp only [go_sem]; rfl) (by simp only [go_sem]; rfl) (by simp only [go_sem]; rfl) (by decide +kernel); (focus simp only [go_sem]; done)) | exact bP | refine aU (uX ?_) ?_ | refine aV (aX ?_) ?_ | refine aW (aX ?_) ?_ | exact bU | exact oH | exact uB | refine rD ?_ | refine aO ?_ | fail)
    all_goals
     (skip
      first | (refine aY (gW hl i h hi hh) ⟨rfl, rfl⟩ ?_ rfl ?_; (focus first | rfl | (simp only [go_sem]; done))) | (refine hZ (gW hl i h hi hh) ⟨rfl, rfl⟩ ?_ rfl ?_; (focus first | rfl | (simp only [go_sem]; done)))
      clear hi hh; rintro ⟨x2, i, h⟩ ⟨hx2, hi, hh⟩; simp only at hx2 hi hh; simp only [go_sem]
      have qH := aI @hl1 (aI @hl2 (aI @a1o @a1p)); repeat' (with_reducible first | refine nY ?_ | (refine mX ?_; try simp only [go_sem, qH]) | refine kD ?_ | exact bP | refine aU (uX ?_) ?_ | refine aV (aX ?_) ?_ | refine aW (aX ?_) ?_ | exact uB | refine rD ?_ | refine aO ?_ | fail)
      refine bE (4, r ++ [⟨⟨#[100, 100]⟩, x2⟩], i, h) ?_ ?_ ?_
      ·simp only [go_sem, List.map_append]; try simp [bH]
      ·exact ⟨⟨by simp only; omega, rU hr (hnm _ (by simp [nmD])) hx2⟩, hi, hh⟩
      ·simp only; omega)
  ·simp only [decide_eq_false_iff_not] at hlt
   refine aF ?_
   refine a3U (Sees.frz 1 rfl) ?_
   simp only [go_sem]
   exact aJ (r, i, h) ⟨⟨_, rfl, by simp only [go_sem]⟩, trivial⟩ ⟨(show ansD 5 r from ⟨by omega, by have := hr.w; omega⟩), ⟨hi, hh⟩⟩ (by simp only [go_sem])
theorem xB {l : List Int} (hl : gM l) : FnX Try.prog 54 [.o (.d (.sl (l.map mV)))] (fun p : List TNode × TFile × List TResult => qryA p.1 ∧ fileA p.2.1 ∧ ansD 5 p.2.2) (fun p => .t [(false, [.w 104 7 (p.1.map bA)]), (true, (pX p.2.1).cells), (false, [.d (.sl (p.2.2.map bH))])]) := by
 refine a6z Try.func54 rfl Try.call54 rfl (fun C => ?_); simp only [go_sem, st0, Try.ntmps54]
 refine aF ?_
 refine a4Y (tQ l hl.1 hl.2) rfl rfl ?_
 intro h hh
 simp only [go_sem]
 refine aF ?_
 first | (refine aY (zH hl 0 h (Nat.zero_le _) hh) ⟨rfl, rfl⟩ ?_ rfl ?_; (focus first | rfl | (simp only [go_sem]; done))) | (refine hZ (zH hl 0 h (Nat.zero_le _) hh) ⟨rfl, rfl⟩ ?_ rfl ?_; (focus first | rfl | (simp only [go_sem]; done)))
 clear hh; rintro ⟨q, i, h⟩ ⟨hq, hi, hh⟩; simp only at hq hi hh; simp only [go_sem]
 refine aF ?_
 first | (refine aY (pI hl i h hi hh) ⟨rfl, rfl⟩ ?_ rfl ?_; (focus first | rfl | (simp only [go_sem]; done))) | (refine hZ (pI hl i h hi hh) ⟨rfl, rfl⟩ ?_ rfl ?_; (focus first | rfl | (simp only [go_sem]; done)))
 clear hi hh; rintro ⟨f, i, h⟩ ⟨hf, hi, hh⟩; simp only at hf hi hh; simp only [go_sem]
 refine aF ?_
 first | (refine aY (pW hl i h hi hh) ⟨rfl, rfl⟩ ?_ rfl ?_; (focus first | rfl | (simp only [go_sem]; done))) | (refine hZ (pW hl i h hi hh) ⟨rfl, rfl⟩ ?_ rfl ?_; (focus first | rfl | (simp only [go_sem]; done)))
 clear hi hh; rintro ⟨r, i, h⟩ ⟨hr, hi, hh⟩; simp only at hr hi hh; simp only [go_sem]
 refine aF ?_
 exact rY (q, f, r) ⟨⟨_, rfl, by simp only [go_sem]; try simp⟩, by simp [nN]⟩ ⟨hq, hf, hr⟩
theorem a1q {l : List Int} (hl : gM l) : FnX Try.prog 18 [.o (.d (.sl (l.map mV)))] (fun p : List TNode × TFile × List TResult => qryA p.1 ∧ fileA p.2.1 ∧ ansD 5 p.2.2) (fun p => .t [(false, [.w 104 7 (p.1.map bA)]), (true, (pX p.2.1).cells), (false, [.d (.sl (p.2.2.map bH))])]) := by
 refine a6z Try.func18 rfl Try.call18 rfl (fun C => ?_); simp only [go_sem, st0, Try.ntmps18]
 refine aF ?_
 refine a3f (xB hl) rfl rfl ?_
 rintro ⟨q, f, r⟩ ⟨hq, hf, hr⟩
 simp only at hq hf hr
 simp only [go_sem]
 refine aF ?_
 exact rY (q, f, r) ⟨⟨_, rfl, by simp only [go_sem]; try simp⟩, by simp [nN]⟩ ⟨hq, hf, hr⟩
theorem a0s {l : List Int} (hl : gM l) : FnX Try.prog 22 [.o (.d (.sl (l.map mV)))] (fun p : TFile × TEdit => fileA p.1 ∧ oP p.2) (fun p => .t [(true, (pX p.1).cells), (true, (pY p.2).cells)]) := by
 refine a6z Try.func22 rfl Try.call22 rfl (fun C => ?_); simp only [go_sem, st0, Try.ntmps22]
 refine aF ?_
 refine a4Y (tQ l hl.1 hl.2) rfl rfl ?_
 intro h hh
 simp only [go_sem]
 refine aF ?_
 first | (refine aY (pI hl 0 h (Nat.zero_le _) hh) ⟨rfl, rfl⟩ ?_ rfl ?_; (focus first | rfl | (simp only [go_sem]; done))) | (refine hZ (pI hl 0 h (Nat.zero_le _) hh) ⟨rfl, rfl⟩ ?_ rfl ?_; (focus first | rfl | (simp only [go_sem]; done)))
 clear hh; rintro ⟨f, i, h⟩ ⟨hf, hi, hh⟩; simp only at hf hi hh; simp only [go_sem]
 refine aF ?_
 refine gX (xW l hl.1 hl.2 i h hi hh) ⟨rfl, rfl⟩ rfl rfl ?_
 clear hi hh
 rintro ⟨e, i, h⟩ ⟨he, hi, hh⟩
 simp only at he hi hh
 simp only [go_sem]
 refine aF ?_
 exact rY (f, e) ⟨⟨_, rfl, by simp only [go_sem]; try simp⟩, by simp [nN]⟩ ⟨hf, he⟩
theorem a1r (f : TFile) (hl : f.fAttrs.length ≤ 1048576) : FnC Try.prog 28 [eH f, eH f] (ob true) := by
 refine ent Try.func28 rfl Try.call28 rfl (fun C => ?_); simp only [go_sem, st0, Try.ntmps28]
 have q0 := @decide_true; refine yF (sW f.fAttrs hl) ?_
 exact aA ⟨⟨_, rfl, by simp only [go_sem]⟩, trivial⟩
theorem a8F {q : List TNode} {f : TFile} {r : List TResult} {k i : Nat} {n : TNode} (hg : q[i]? = some n) {b : Bool} (h : mt q f r (k + 1) i = b) : wt q f r (k + 1) i b = ⟨true, []⟩ := by
 unfold wt
 rw [hg]
 simp only [h, if_true]
theorem a1s {q : List TNode} {f : TFile} {r : List TResult} (hq : okQ q = true) (b : Bool) (h : mt q f r q.length (q.length - 1) = b) : dR q f r b = ⟨true, []⟩ := by
 have hl := jI hq
 unfold dR
 rw [if_pos hq]
 obtain ⟨i, hi⟩ : ∃ i, q.length - 1 = i := ⟨_, rfl⟩
 rw [hi] at h ⊢
 have hg : q[i]? = some (q[i]'(by omega)) := List.getElem?_eq_getElem _
 have e : q.length = i + 1 := by omega
 rw [e] at h ⊢
 exact a8F hg h
theorem a7D {e : TEdit} (h : oP e) : fB e ≤ 60 := by
 have h1 := lZ h
 have h2 : ∀ a ∈ e.fSet, fQ a ≤ 8 := fun a ha => by
  have h3 := h.2.2 a ha
  have h4 : a.fName ∈ nm4 := h.1.subset (List.mem_map_of_mem ha)
  have h5 := (by decide +kernel : ∀ s ∈ nm4, s.size ≤ 1) _ h4
  unfold fQ jC
  omega
 have h6 : dD fQ e.fSet ≤ e.fSet.length * 8 := by
  generalize e.fSet = l at h2
  induction l with
  | nil => simp [dD]
  | cons x l ih =>
   have := h2 x List.mem_cons_self
   have := ih fun a ha => h2 a (List.mem_cons_of_mem _ ha)
   simp only [dD, List.length_cons, Nat.add_mul]
   omega
 unfold fB bF
 omega
theorem a1t {q : List TNode} {f : TFile} {r : List TResult} (hq : okQ q = false) (b : Bool) : dR q f r b = ⟨false, []⟩ := by
 unfold dR
 rw [if_neg (by rw [hq]; decide)]
theorem a1u (l : List Int) (hf : wfU l) : FnC Try.prog 4 [.o (.d (.sl (l.map mV)))] (ob true) := by
 refine ent Try.func4 rfl Try.call4 rfl (fun C => ?_); simp only [go_sem, st0, Try.ntmps4]
 have hbig := a8d l hf.1
 by_cases g : (1048576 : Int) < (l.length : Int)
 ·have g' : decide ((1048576 : Int) < (l.length : Int)) = true := by simp [g]
  have q0 := @g'; refine yF hbig ?_
  exact aA ⟨⟨_, rfl, by simp only [go_sem]⟩, trivial⟩
 have g' : decide ((1048576 : Int) < (l.length : Int)) = false := by simp [g]
 have hl : gM l := ⟨by omega, hf.2⟩
 have q0 := @g'; refine yF hbig ?_
 refine a3f (a1q hl) rfl rfl ?_
 rintro ⟨q, f, r⟩ ⟨hq, hfa, hr⟩
 simp only at hq hfa hr
 simp only [go_sem]
 have hwq : eD q ≤ 200 := by have := a7F hq.hi hq.nd; omega
 have hwf := hfa.w
 have hwr : cK r ≤ 100 := by have h1 := hr.len; have h2 := hr.w; unfold cK; omega
 have c1 := vO q f r (by omega) (by omega) (by omega)
 have c2 := tC q f r (by omega) (by omega) (by omega)
 refine a9W c1 c2 ?_
 refine a3f (a0J l (by omega) hf.2) rfl rfl ?_
 rintro ⟨a, b⟩ ⟨ha, hb⟩
 simp only at ha hb
 simp only [go_sem]
 refine aF ?_
 refine a3f (a0s hl) rfl rfl ?_
 rintro ⟨f2, e2⟩ ⟨hf2, he2⟩
 simp only at hf2 he2
 simp only [go_sem]
 repeat' (with_reducible first | refine nX ?_ | (refine mX ?_; try simp only [go_sem]) | refine kD ?_ | refine aO ?_ | fail)
 refine WP.sees (Sees.frz 5 rfl) ?_
 simp only [go_sem]
 refine WP.sees (Sees.frz 6 rfl) ?_
 simp only [go_sem]
 refine WP.sees (Sees.frz 9 rfl) ?_
 simp only [go_sem]
 refine WP.sees (Sees.frz 10 rfl) ?_
 simp only [go_sem]
 have hw2 := hf2.w
 have he2w := a7D he2
 have hla := lZ ha
 have hlb := lZ hb
 have c3 := xY q f r (by omega) (by omega) (by omega)
 have c4 := uH q f r (by omega) (by omega) (by omega)
 have c5 := fK (iE a b (by omega) (by omega)) (by simp only [go_sem]) (by simp only [go_sem])
 have c6 := gP a b (by omega) (by omega)
 have c7 := sI f2 e2 (by omega)
 have c8 := tX f2 e2 (by omega)
 have c9 := xZ q f r (by omega) (by omega) (by omega)
 have c10 := cZ q (by omega)
 have l1 : (dR q f r true).fSet.length ≤ 1048576 := by have := a3t q f r true; have := uI (dR q f r true); omega
 have l2 : (dR q f r false).fSet.length ≤ 1048576 := by have := a3t q f r false; have := uI (dR q f r false); omega
 have l3 : (dG a b).fSet.length ≤ 1048576 := by have := a2J ha hb; omega
 have l4 : (iP f2 e2).fAttrs.length ≤ 1048576 := by have h9 := a6R f2 e2; unfold dM bF at h9; unfold dM bF at hw2; omega
 have s1 := oO (dR q f r true) l1
 have s2 := oO (dR q f r false) l2
 have s3 := oO (dG a b) l3
 have s4 := a1r (iP f2 e2) l4
 have z0 : decide (((0 : Nat) : Int) = 0) = true := rfl
 cases hq0 : okQ q
 ·have e1 := a1t (f := f) (r := r) hq0 true
  have e2' := a1t (f := f) (r := r) hq0 false
  have e3 : mtQ q r f = false := by unfold mtQ; rw [hq0]; rfl
  rw [hq0] at c10
  rw [e3] at c9
  rw [e1] at c3 s1
  rw [e2'] at c4 s2
  simp only [e1, e2', go_sem]
  repeat' (with_reducible first | refine nY ?_ | (refine mX ?_; try simp only [go_sem]) | refine kD ?_ | refine rD ?_ | refine cP c3 ?_ | refine cP c4 ?_ | refine cP c5 ?_ | refine cP c6 ?_ | refine cP c7 ?_ | refine cP c8 ?_ | refine cP c9 ?_ | refine cP c10 ?_ | refine cP s1 ?_ | refine cP s2 ?_ | refine cP s3 ?_ | refine cP s4 ?_ | refine aO ?_ | fail)
  exact aA ⟨⟨_, rfl, by simp only [go_sem]⟩, trivial⟩
 ·cases hm : mt q f r q.length (q.length - 1)
  ·have e2' := a1s hq0 false hm
   have e3 : mtQ q r f = false := by unfold mtQ; rw [hq0, hm]; rfl
   rw [hq0] at c10
   rw [e3] at c9
   rw [e2'] at c4 s2
   simp only [e2', go_sem]
   have qH := @z0; repeat' (with_reducible first | refine nY ?_ | (refine mX ?_; try simp only [go_sem, qH]) | refine kD ?_ | refine rD ?_ | refine cP c3 ?_ | refine cP c4 ?_ | refine cP c5 ?_ | refine cP c6 ?_ | refine cP c7 ?_ | refine cP c8 ?_ | refine cP c9 ?_ | refine cP c10 ?_ | refine cP s1 ?_ | refine cP s2 ?_ | refine cP s3 ?_ | refine cP s4 ?_ | refine aO ?_ | fail)
   exact aA ⟨⟨_, rfl, by simp only [go_sem]⟩, trivial⟩
  ·have e1 := a1s hq0 true hm
   have e3 : mtQ q r f = true := by unfold mtQ; rw [hq0, hm]; rfl
   rw [hq0] at c10
   rw [e3] at c9
   rw [e1] at c3 s1
   simp only [e1, go_sem]
   have qH := @z0; repeat' (with_reducible first | refine nY ?_ | (refine mX ?_; try simp only [go_sem, qH]) | refine kD ?_ | refine rD ?_ | refine cP c3 ?_ | refine cP c4 ?_ | refine cP c5 ?_ | refine cP c6 ?_ | refine cP c7 ?_ | refine cP c8 ?_ | refine cP c9 ?_ | refine cP c10 ?_ | refine cP s1 ?_ | refine cP s2 ?_ | refine cP s3 ?_ | refine cP s4 ?_ | refine aO ?_ | fail)
   exact aA ⟨⟨_, rfl, by simp only [go_sem]⟩, trivial⟩
end Go.Proofs.Ytolgdibgnndoaaa
end
