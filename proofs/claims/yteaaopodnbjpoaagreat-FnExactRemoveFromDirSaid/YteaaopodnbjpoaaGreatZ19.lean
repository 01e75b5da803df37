/- Joined texts. -/
import Derived.Test.YteaaopodnbjpoaaGreatZ18
import Derived.Test.YteaaopodnbjpoaaGreatZ06
import Derived.Shelf.RegionOpenPlain
import Derived.WalkKit
import Derived.Deep.LoopGhost
import Derived.Deep.Draws
import Derived.Lib.Walk
import Derived.Lib.SliceRun
import Derived.Shelf.SlicesE.Kit
import Derived.Shelf.SlicesE.DeleteFunc
import Derived.Test.YteaaopodnbjpoaaGreatZ11
import Derived.Test.YteaaopodnbjpoaaGreatZ10
set_option linter.all false
section
set_option maxRecDepth 100000
namespace Go.Sx
open Go Go.RowKit
structure DelK (k : Nat) (xs : List (List Value × Bool)) (i j : Nat) (F : List Value) : Prop where
 un : ∀ x ∈ xs, x.1.length = k
 len : F.length = xs.length * k
 ij : i < j
 jn : j ≤ xs.length
 lo : F.take (i * k) = (((xs.take j).filter fun x => !x.2).map (·.1)).flatten
 hi : F.drop (j * k) = ((xs.drop j).map (·.1)).flatten
 il : i = ((xs.take j).filter fun x => !x.2).length
theorem b4t {k : Nat} {xs : List (List Value × Bool)} (h : ∀ x ∈ xs, x.1.length = k) : ((xs.map (·.1)).flatten).length = xs.length * k := by
 rw [a5H (sz := k) fun r hr => by obtain ⟨x, hx, rfl⟩ := List.mem_map.1 hr; exact h x hx, List.length_map]
theorem DelK.at {k : Nat} {xs : List (List Value × Bool)} {i j : Nat} {F : List Value} (h : DelK k xs i j F) (hj : j < xs.length) {t : Nat} {v : Value} (ht : xs[j].1[t]? = some v) : F[j * k + t]? = some v := by
 have h0 : (F.drop (j * k))[t]? = ((xs.drop j).map (·.1)).flatten[t]? := by rw [h.hi]
 rw [List.getElem?_drop] at h0
 rw [h0, List.drop_eq_getElem_cons hj, List.map_cons, List.flatten_cons, List.getElem?_append_left (List.getElem?_eq_some_iff.1 ht).1]
 exact ht
theorem b6j (xs : List (List Value × Bool)) (k : Nat) (h : ∀ j (hj : j < xs.length), j < k → xs[j].2 = false) : (xs.take k).filter (fun x => !x.2) = xs.take k := by
 refine List.filter_eq_self.2 fun x hx => ?_
 obtain ⟨j, hj, rfl⟩ := List.mem_iff_getElem.1 hx
 simp only [List.length_take] at hj
 rw [List.getElem_take, h j (by omega) (by omega)]; rfl
theorem DelK.start {k n : Nat} {xs : List (List Value × Bool)} (hu : ∀ x ∈ xs, x.1.length = k) (hn : n < xs.length) (h : ∀ j (hj : j < xs.length), j < n → xs[j].2 = false) (hp : xs[n].2 = true) : DelK k xs n (n + 1) (xs.map (·.1)).flatten := by
 have e1 : (xs.take (n + 1)).filter (fun x => !x.2) = xs.take n := by
  rw [List.take_succ_eq_append_getElem hn, List.filter_append, b6j xs n h]
  simp [hp]
 have hu' : ∀ r ∈ xs.map (·.1), r.length = k := fun r hr => by obtain ⟨x, hx, rfl⟩ := List.mem_map.1 hr; exact hu x hx
 refine ⟨hu, b4t hu, by omega, by omega, ?_, ?_, ?_⟩
 ·rw [e1, List.map_take, zS n hu']
 ·rw [List.map_drop, nS (n + 1) hu']
 ·rw [e1]; simp; omega
theorem DelK.keep {k : Nat} {xs : List (List Value × Bool)} {i j : Nat} {F : List Value} (h : DelK k xs i j F) (hj : j < xs.length) (hp : xs[j].2 = false) : DelK k xs (i + 1) (j + 1) (F.take (i * k) ++ xs[j].1 ++ F.drop (i * k + xs[j].1.length)) := by
 have e1 : (xs.take (j + 1)).filter (fun x => !x.2) = (xs.take j).filter (fun x => !x.2) ++ [xs[j]] := by
  rw [List.take_succ_eq_append_getElem hj, List.filter_append]
  simp [hp]
 have hl := h.len
 have hij := h.ij
 have hu := h.un xs[j] (List.getElem_mem hj)
 have hle : (i + 1) * k ≤ j * k := Nat.mul_le_mul_right k hij
 have hle2 : (j + 1) * k ≤ xs.length * k := Nat.mul_le_mul_right k hj
 rw [Nat.add_mul] at hle hle2
 simp only [Nat.one_mul] at hle hle2
 have hFl : i * k + k ≤ F.length := by omega
 refine ⟨h.un, ?_, by omega, by omega, ?_, ?_, ?_⟩
 ·simp only [List.length_append, List.length_take, List.length_drop, hu]; omega
 ·rw [List.take_append_of_le_length (by simp [hu, Nat.add_mul]; omega), List.take_of_length_le (by simp [hu, Nat.add_mul]; omega), e1, List.map_append, List.flatten_append, h.lo]; simp
 ·rw [List.drop_append, List.drop_of_length_le (by simp [hu, Nat.add_mul]; omega), List.nil_append, List.drop_drop]
  have e2 : F.drop ((j + 1) * k) = ((xs.drop (j + 1)).map (·.1)).flatten := by
   have hu' : ∀ r ∈ (xs.drop j).map (·.1), r.length = k := fun r hr => by obtain ⟨x, hx, rfl⟩ := List.mem_map.1 hr; exact h.un x (List.mem_of_mem_drop hx)
   have := nS 1 hu'
   rw [Nat.add_mul, ← List.drop_drop, h.hi, ← this, ← List.map_drop, List.drop_drop]
  rw [← e2]
  congr 1
  simp only [List.length_append, List.length_take, hu, Nat.add_mul]
  omega
 ·rw [e1, List.length_append, ← h.il]; rfl
theorem DelK.skip {k : Nat} {xs : List (List Value × Bool)} {i j : Nat} {F : List Value} (h : DelK k xs i j F) (hj : j < xs.length) (hp : xs[j].2 = true) : DelK k xs i (j + 1) F := by
 have e1 : (xs.take (j + 1)).filter (fun x => !x.2) = (xs.take j).filter (fun x => !x.2) := by
  rw [List.take_succ_eq_append_getElem hj, List.filter_append]
  simp [hp]
 have hij := h.ij
 refine ⟨h.un, h.len, by omega, by omega, by rw [e1]; exact h.lo, ?_, by rw [e1]; exact h.il⟩
 have hu' : ∀ r ∈ (xs.drop j).map (·.1), r.length = k := fun r hr => by obtain ⟨x, hx, rfl⟩ := List.mem_map.1 hr; exact h.un x (List.mem_of_mem_drop hx)
 have := nS 1 hu'
 rw [Nat.add_mul, ← List.drop_drop, h.hi, ← this, ← List.map_drop, List.drop_drop]
theorem DelK.fin {k : Nat} {xs : List (List Value × Bool)} {i : Nat} {F : List Value} (h : DelK k xs i xs.length F) : F.take (i * k) = ((xs.filter fun x => !x.2).map (·.1)).flatten ∧ i = (xs.filter fun x => !x.2).length := by
 have h1 := h.lo
 have h2 := h.il
 rw [List.take_length] at h1 h2
 exact ⟨h1, h2⟩
theorem RowAt.other {w wr W : World} {b ty N : Nat} {F : List Value} (h : RowAt w wr b ty N F) (hb : Below wr.heap.size wr W) : RowAt w W b ty N F := h.behind hb
def lC {τ : Type} (k : Nat) (p : τ → Bool) : List Value → List τ → List (List Value × Bool)
 | _, [] => []
 | ys, x :: l => (ys.take k, p x) :: lC k p (ys.drop k) l
def a8u {α τ : Type} (k : Nat) (p : τ → Bool) : List α → List τ → List α
 | _, [] => []
 | ys, x :: l => (if p x then [] else ys.take k) ++ a8u k p (ys.drop k) l
theorem a5J {τ : Type} (k : Nat) (p : τ → Bool) : ∀ (l : List τ) (ys : List Value), (lC k p ys l).length = l.length
 | [], _ => rfl
 | x :: l, ys => by simp [lC, a5J k p l]
theorem a7g {τ : Type} (k : Nat) (p : τ → Bool) : ∀ (l : List τ) (ys : List Value), ys.length = l.length * k → ∀ x ∈ lC k p ys l, x.1.length = k
 | [], _, _, x, hx => by simp [lC] at hx
 | y :: l, ys, h, x, hx => by
  rw [List.length_cons, Nat.add_mul] at h
  rcases List.mem_cons.1 hx with rfl | hx
  ·simp; omega
  ·exact a7g k p l _ (by simp; omega) x hx
theorem a5K {τ : Type} (k : Nat) (p : τ → Bool) : ∀ (l : List τ) (ys : List Value) (j : Nat) (hj : j < l.length) (hj' : j < (lC k p ys l).length), (lC k p ys l)[j] = ((ys.drop (j * k)).take k, p l[j])
 | y :: l, ys, 0, _, _ => by simp [lC]
 | y :: l, ys, j + 1, hj, hj' => by
  simp only [lC, List.getElem_cons_succ]
  rw [a5K k p l (ys.drop k) j (by simpa using hj)]
  rw [List.drop_drop, Nat.add_mul, Nat.one_mul, Nat.add_comm]
theorem a3k {τ : Type} (k : Nat) (p : τ → Bool) : ∀ (l : List τ) (ys : List Value), ys.length = l.length * k → ((lC k p ys l).map (·.1)).flatten = ys
 | [], ys, h => by simp at h; subst h; rfl
 | x :: l, ys, h => by
  rw [List.length_cons, Nat.add_mul] at h
  simp only [lC, List.map_cons, List.flatten_cons]
  rw [a3k k p l _ (by simp; omega), List.take_append_drop]
theorem a5L {τ : Type} (k : Nat) (p : τ → Bool) : ∀ (l : List τ) (ys : List Value), (((lC k p ys l).filter fun x => !x.2).map (·.1)).flatten = a8u k p ys l ∧ ((lC k p ys l).filter fun x => !x.2).length = (l.filter fun x => !p x).length
 | [], ys => ⟨rfl, rfl⟩
 | x :: l, ys => by
  obtain ⟨h1, h2⟩ := a5L k p l (ys.drop k)
  simp only [lC, List.filter_cons, a8u]
  cases p x
  ·simp [h1, h2]
  ·simp [h1, h2]
theorem b0t {τ : Type} (k : Nat) (p : τ → Bool) : ∀ (l : List τ) (Ss : List (List Nat)), (a8u k p Ss l).Sublist Ss
 | [], _ => List.nil_sublist _
 | x :: l, Ss => by
  simp only [a8u]
  conv => rhs; rw [← List.take_append_drop k Ss]
  refine List.Sublist.append ?_ (b0t k p l _)
  split
  ·exact List.nil_sublist _
  ·exact List.Sublist.refl _
theorem LayL.sel {τ : Type} {V : View} {k : Nat} (enc : τ → List D) (p : τ → Bool) (he : ∀ x, (enc x).length = k) : ∀ (l : List τ) (ys : List Value) (Ss : List (List Nat)), LayL V (l.map enc).flatten ys Ss → LayL V ((l.filter fun x => !p x).map enc).flatten (a8u k p ys l) (a8u k p Ss l)
 | [], ys, Ss, h => LayL.nil V
 | x :: l, ys, Ss, h => by
  have h1 := h.take k
  have h2 := h.drop k
  simp only [List.map_cons, List.flatten_cons] at h1 h2
  rw [List.take_left' (he x)] at h1
  rw [List.drop_left' (he x)] at h2
  have ih := LayL.sel enc p he l _ _ h2
  simp only [a8u, List.filter_cons]
  cases p x
  ·simp only [Bool.not_false, if_true, Bool.false_eq_true, if_false, List.map_cons, List.flatten_cons]
   exact h1.append ih
  ·simp only [Bool.not_true, Bool.false_eq_true, if_false, if_true, List.nil_append]
   exact ih
theorem b8P {V : View} {ds : List D} {ys : List Value} {Ss : List (List Nat)} (h : LayL V ds ys Ss) : cL [] V (ds.map At.d) ys :=
 ⟨by simp [h.1], fun j a y h1 h2 => by
  rw [List.getElem?_map] at h1
  cases hd : ds[j]? with
  | none => rw [hd] at h1; cases h1
  | some d =>
   rw [hd] at h1
   cases h1
   have hj : j < Ss.length := by rw [h.2.1]; exact (List.getElem?_eq_some_iff.1 hd).1
   exact ⟨_, h.2.2 j d y _ hd h2 (List.getElem?_eq_getElem hj)⟩⟩
theorem LayL.chunk {τ : Type} {V : View} {k : Nat} {enc : τ → List D} (he : ∀ x, (enc x).length = k) {l : List τ} {ys : List Value} {Ss : List (List Nat)} (h : LayL V (l.map enc).flatten ys Ss) (j : Nat) (hj : j < l.length) : LayL V (enc l[j]) ((ys.drop (j * k)).take k) ((Ss.drop (j * k)).take k) := by
 have hu : ∀ r ∈ l.map enc, r.length = k := fun r hr => by obtain ⟨x, _, rfl⟩ := List.mem_map.1 hr; exact he x
 have h1 := (h.drop (j * k)).take k
 rw [← nS j hu, List.drop_eq_getElem_cons (by simpa using hj), List.flatten_cons, List.getElem_map, List.take_left' (he _)] at h1
 exact h1
theorem a1X {w W : World} {c : Array Value} {ty : Nat} (h : Below (w.alloc (.cells c ty)).heap.size (w.alloc (.cells c ty)) W) {t : Nat} {v : Value} (hv : c.toList[t]? = some v) : W.cell? ⟨w.heap.size, t, none⟩ = some v := by
 have hh : (w.alloc (.cells c ty)).heap = w.heap.push (.cells c ty) := rfl
 have h1 : W.heap[w.heap.size]? = some (.cells c ty) := by
  rw [h.block w.heap.size (by rw [hh, Array.size_push]; omega), hh, Array.getElem?_push, if_pos rfl]
 simp only [World.cell?, h1, Option.isSome_none, Bool.false_eq_true, if_false]
 rw [← Array.getElem?_toList]; exact hv
theorem a3l {α : Type} {l m : List (List α)} (h : l.Sublist m) : l.flatten.Sublist m.flatten := by
 induction h with
 | slnil => exact List.Sublist.refl _
 | cons a _ ih => exact ih.trans (by simp)
 | cons_cons a _ ih => simp only [List.flatten_cons]; exact (List.Sublist.refl a).append ih
end Go.Sx
end
section
namespace Go.Proofs.YteaaopodnbjpoaaGreat
open Go Go.Sx Go.RowKit Go.Proofs Go.Lib
set_option maxHeartbeats 4000000 in
set_option maxRecDepth 1000000 in
theorem a8t (b cap : Nat) (xs : List (List Value × Bool)) (w : World) (g : Nat) (lb : Array Value) (hR : RowAt w w b 117 (cap * 4) (xs.map (·.1)).flatten) (hn : xs.length ≤ cap) (hbig : cap ≤ 9223372036854775807) (hun : ∀ x ∈ xs, x.1.length = 4) (h1c : ∀ x ∈ xs, ∀ v ∈ x.1, v.oneCell' = true) (kk : Int)
    (hk : (kk = -1 ∧ ∀ x ∈ xs, x.2 = false) ∨ ∃ k0 : Nat, kk = k0 ∧ ∃ h : k0 < xs.length, xs[k0].2 = true ∧ ∀ j (hj : j < xs.length), j < k0 → xs[j].2 = false)
    (eg : ∀ args w, (callFunc g args).run Tryz.prog w = .ok (.enter g args) w)
    (hIF : Calls Tryz.prog 261 #[.slice (some ⟨b, 0, none⟩) xs.length cap, .func (.func g) #[] lb] w fun e w' => e = .returned (.int .i64 kk) ∧ Below w.heap.size w w')
    (hp : ∀ W F x, x ∈ xs → RowAt w W b 117 (cap * 4) F → Calls Tryz.prog g (#[.agg x.1.toArray] ++ lb) W fun e w' => e = .returned (.bool x.2) ∧ Below W.heap.size W w') :
    Calls Tryz.prog 259 #[.slice (some ⟨b, 0, none⟩) xs.length cap, .func (.func g) #[] lb] w fun e w' =>
     e = .returned (.slice (some ⟨b, 0, none⟩) (xs.filter fun x => !x.2).length cap) ∧ ∃ G, RowAt w w' b 117 (cap * 4) (((xs.filter fun x => !x.2).map (·.1)).flatten ++ G) := by
 have e6 := Tryz.call261
 rcases hk with ⟨rfl, hall⟩ | ⟨k0, rfl, hk0, ht, hall⟩
 ·have hkeep : (xs.filter fun x => !x.2) = xs := List.filter_eq_self.2 fun x hx => by rw [hall x hx]; rfl
  rw [hkeep]
  have HR : Aside (RowAt w w b 117 (cap * 4) (xs.map (·.1)).flatten) := hR
  clear hR hp h1c hun
  go_enter Tryz.func259, Tryz.ntmps259
  go_wp2_with fail
  refine hIF.mono ?_
  rintro e w' ⟨rfl, hb⟩
  go_wp2
  go_ret
  exact ⟨rfl, [], by simpa using HR.out.behind hb⟩
 ·have hne1 : ((k0 : Int) == -1) = false := beq_eq_false_iff_ne.2 (by omega)
  have HS : Aside (DelK 4 xs k0 (k0 + 1) (xs.map (·.1)).flatten) := DelK.start hun hk0 hall ht
  have HR : Aside (RowAt w w b 117 (cap * 4) (xs.map (·.1)).flatten) := hR
  have HC : Aside _ := hp
  have HO : Aside _ := h1c
  clear hR hp ht hall h1c hun
  go_enter Tryz.func259, Tryz.ntmps259
  go_wp2_with fail
  refine hIF.mono ?_
  rintro e w' ⟨rfl, hb⟩
  go_wp2
  go_loopg [5, 6, 7] xs.length (fun gg s5 s6 _ wr => ∃ (i j : Nat) (F : List Value), s5 = .int .i64 i ∧ s6 = .int .i64 j ∧ j ≤ xs.length ∧ xs.length - j ≤ gg ∧ Aside (RowAt w wr b 117 (cap * 4) F) ∧ Aside (DelK 4 xs i j F))
  case atStart => exact ⟨k0, k0 + 1, _, rfl, by go_num, by omega, by omega, HR.out.behind hb, HS⟩
  case round =>
   obtain ⟨i, j, F, rfl, rfl, hjd, hgg, R2, I2⟩ := hrel
   have hI := I2.out
   have hlF := hI.len
   have hij := hI.ij
   by_cases hlt : j < xs.length
   ·have hltz : (j : Int) < (xs.length : Int) := by omega
    obtain ⟨v0, v1, v2, v3, hu⟩ : ∃ v0 v1 v2 v3, xs[j].1 = [v0, v1, v2, v3] := by
     have := hI.un xs[j] (List.getElem_mem hlt)
     match hq : xs[j].1, this with
     | [v0, v1, v2, v3], _ => exact ⟨v0, v1, v2, v3, rfl⟩
    have c0 : wr.cell? ⟨b, j * 4, none⟩ = some v0 := R2.out.cell (hI.at hlt (t := 0) (by rw [hu]; rfl))
    have c1 : wr.cell? ⟨b, j * 4 + 1, none⟩ = some v1 := R2.out.cell (hI.at hlt (t := 1) (by rw [hu]; rfl))
    have c2 : wr.cell? ⟨b, j * 4 + 2, none⟩ = some v2 := R2.out.cell (hI.at hlt (t := 2) (by rw [hu]; rfl))
    have c3 : wr.cell? ⟨b, j * 4 + 3, none⟩ = some v3 := R2.out.cell (hI.at hlt (t := 3) (by rw [hu]; rfl))
    have o0 : v0.oneCell' = true := HO.out xs[j] (List.getElem_mem hlt) v0 (by rw [hu]; simp)
    have s0 := fun (W : World) (a : Addr) (m : Mode) => run_store Tryz.prog W a v0 m o0
    have o1 : v1.oneCell' = true := HO.out xs[j] (List.getElem_mem hlt) v1 (by rw [hu]; simp)
    have s1 := fun (W : World) (a : Addr) (m : Mode) => run_store Tryz.prog W a v1 m o1
    have o2 : v2.oneCell' = true := HO.out xs[j] (List.getElem_mem hlt) v2 (by rw [hu]; simp)
    have s2 := fun (W : World) (a : Addr) (m : Mode) => run_store Tryz.prog W a v2 m o2
    have o3 : v3.oneCell' = true := HO.out xs[j] (List.getElem_mem hlt) v3 (by rw [hu]; simp)
    have s3 := fun (W : World) (a : Addr) (m : Mode) => run_store Tryz.prog W a v3 m o3
    have C : Aside (xs[j].1 = [v0, v1, v2, v3]) := hu
    have hcall := HC.out (wr.alloc (.cells #[v0, v1, v2, v3] 117)) F xs[j] (List.getElem_mem hlt) (R2.out.behind (oJ wr _))
    rw [hu] at hcall
    clear hu hI
    cases hq : xs[j].2 with
    | false =>
     rw [hq] at hcall
     go_wp2_with fail
     refine hcall.mono ?_
     rintro e w'' ⟨rfl, hb'⟩
     have d0 : w''.cell? ⟨wr.heap.size, 0, none⟩ = some v0 := a1X hb' rfl
     have d1 : w''.cell? ⟨wr.heap.size, 1, none⟩ = some v1 := a1X hb' rfl
     have d2 : w''.cell? ⟨wr.heap.size, 2, none⟩ = some v2 := a1X hb' rfl
     have d3 : w''.cell? ⟨wr.heap.size, 3, none⟩ = some v3 := a1X hb' rfl
     have R3 := (R2.out.behind (oJ wr _)).behind hb'
     have hil : i * 4 + 4 ≤ F.length := by
      have : (i + 1) * 4 ≤ xs.length * 4 := Nat.mul_le_mul_right _ (by omega)
      rw [hlF]; rw [Nat.add_mul] at this; omega
     have e0' := R3.cell (List.getElem?_eq_getElem (show i * 4 < F.length by omega))
     have f0' := R3.frozen (i * 4)
     have e1' := R3.cell (List.getElem?_eq_getElem (show i * 4 + 1 < F.length by omega))
     have f1' := R3.frozen (i * 4 + 1)
     have e2' := R3.cell (List.getElem?_eq_getElem (show i * 4 + 2 < F.length by omega))
     have f2' := R3.frozen (i * 4 + 2)
     have e3' := R3.cell (List.getElem?_eq_getElem (show i * 4 + 3 < F.length by omega))
     have f3' := R3.frozen (i * 4 + 3)
     have A3 : Aside (RowAt w w'' b 117 (cap * 4) F) := R3
     have hbn : ¬ (b = wr.heap.size) := by have := R2.out.lt; omega
     clear R3
     generalize F[i * 4] = old0 at e0'
     generalize F[i * 4 + 1] = old1 at e1'
     generalize F[i * 4 + 2] = old2 at e2'
     generalize F[i * 4 + 3] = old3 at e3'
     go_wp2
     go_roundg (xs.length - (j + 1))
     case measure => omega
     case rel =>
      refine ⟨i + 1, j + 1, F.take (i * 4) ++ xs[j].1 ++ F.drop (i * 4 + xs[j].1.length), by go_num, by go_num, by omega, Nat.le_refl _, (show Aside _ from ?_), (show Aside _ from ?_)⟩
      ·rw [C.out]
       have h := A3.out.set [v0, v1, v2, v3] (s := i * 4) (by omega) (by have := A3.out.le; simp; omega)
       exact h
      ·exact I2.out.keep hlt hq
    | true =>
     rw [hq] at hcall
     go_wp2_with fail
     refine hcall.mono ?_
     rintro e w'' ⟨rfl, hb'⟩
     go_wp2
     go_roundg (xs.length - (j + 1))
     case measure => omega
     case rel => exact ⟨i, j + 1, F, rfl, by go_num, by omega, Nat.le_refl _, (R2.out.behind (oJ wr _)).behind hb', I2.out.skip hlt hq⟩
   ·obtain rfl : j = xs.length := by omega
    have hltz : ¬ (xs.length : Int) < (xs.length : Int) := by omega
    have hRN := R2.out.le
    obtain ⟨hlo, hil⟩ := hI.fin
    have hle : i * 4 ≤ xs.length * 4 := Nat.mul_le_mul_right _ (by omega)
    have hsub : (xs.length - i) * 4 = xs.length * 4 - i * 4 := Nat.sub_mul ..
    have hzl := sV (.agg #[.string ⟨#[]⟩, .int .i64 0, .int .i64 0, .string ⟨#[]⟩] : Value).cells (xs.length - i)
    have hzs : (.agg #[.string ⟨#[]⟩, .int .i64 0, .int .i64 0, .string ⟨#[]⟩] : Value).cells.size = 4 := rfl
    rw [hzs] at hzl
    have hcl : ∀ ty, (Builtin.clear_ #[68] ty #[.slice (some ⟨b, i * 4, none⟩) (xs.length - i) (cap - i)]).run Tryz.prog wr = .ok (.tuple #[]) (wr.setCells b (i * 4) (Builtin.zeroCells (.agg #[.string ⟨#[]⟩, .int .i64 0, .int .i64 0, .string ⟨#[]⟩] : Value).cells (xs.length - i)).toList) :=
     fun ty => a3j wr _ _ ty _ Tryz.underlying68 (fun w => Tryz.zeroValue117 w) b (i * 4) _ _ (by omega) (fun t ht => R2.out.there (by rw [hzs] at ht; omega)) (fun t ht => R2.out.frozen _) (a0i (by intro v hv; simp [Value.cells] at hv; rcases hv with rfl | rfl | rfl | rfl <;> rfl) _)
    have HE : Aside (∃ G, RowAt w (wr.setCells b (i * 4) (Builtin.zeroCells (.agg #[.string ⟨#[]⟩, .int .i64 0, .int .i64 0, .string ⟨#[]⟩] : Value).cells (xs.length - i)).toList) b 117 (cap * 4) (((xs.filter fun x => !x.2).map (·.1)).flatten ++ G)) := by
     have := R2.out.set (Builtin.zeroCells (.agg #[.string ⟨#[]⟩, .int .i64 0, .int .i64 0, .string ⟨#[]⟩] : Value).cells (xs.length - i)).toList (s := i * 4) (by omega) (by rw [hzl]; omega)
     rw [hlo, List.append_assoc] at this
     exact ⟨_, this⟩
    have HL : Aside (i = (xs.filter fun x => !x.2).length) := hil
    clear hil hlo hle hI hzl
    go_wp2
    go_ret
    exact ⟨by rw [← HL.out]; rfl, HE.out⟩
set_option maxHeartbeats 4000000 in
set_option maxRecDepth 1000000 in
theorem a1W (ao : Option Addr) (n cap : Nat) (w : World) (g : Nat) (lb : Array Value)
    (hIF : Calls Tryz.prog 261 #[.slice ao n cap, .func (.func g) #[] lb] w fun e w' => e = .returned (.int .i64 (-1)) ∧ Below w.heap.size w w') :
    Calls Tryz.prog 259 #[.slice ao n cap, .func (.func g) #[] lb] w fun e w' => e = .returned (.slice ao n cap) ∧ Below w.heap.size w w' := by
 have e6 := Tryz.call261
 go_enter Tryz.func259, Tryz.ntmps259
 go_wp2_with fail
 refine hIF.mono ?_
 rintro e w' ⟨rfl, hb⟩
 go_wp2
 go_ret
 exact ⟨rfl, hb⟩
end Go.Proofs.YteaaopodnbjpoaaGreat
end
section
set_option maxRecDepth 100000
set_option maxHeartbeats 4000000
namespace Go.Proofs.YteaaopodnbjpoaaGreat
open Go Go.Sx Go.RowKit Go.Proofs
theorem a1V (f : Nat) (c : List D) (p : TAttr → Bool) (l : List TAttr) (hf : ∀ s ∈ l, FnC Tryz.prog f [zZ s, .o (.q c)] (ob (p s))) (hl : l.length ≤ 8388608) :
    FnI Tryz.prog 259 117 4 (l.map aJ) [.o (.f f [c])] false ((l.filter fun x => !p x).map aJ) := by
 have he : ∀ x : TAttr, (aJ x).length = 4 := fun x => rfl
 refine ⟨Tryz.call259, fun V w y S vs hm hrow hnd hlt hargs => ?_⟩
 have hl1 : vs.length = 1 := by have := hargs.1; simpa using this
 match vs, hl1 with
 | [v], _ =>
  have hv := hargs.2 0 _ v rfl rfl
  obtain ⟨lb, rfl, hlb, hcaps⟩ := hv
  have hcl : cSV [] V (.o (.f f [c])) (.func (.func f) #[] lb.toArray) := ⟨lb, rfl, hlb, hcaps⟩
  have hone : ∃ pv, lb = [pv] := by
   match lb, hlb with
   | [pv], _ => exact ⟨pv, rfl⟩
  obtain ⟨pv, rfl⟩ := hone
  have hq : cSV [] V (.o (.q c)) pv := hcaps 0 c pv rfl rfl
  have hI := nN f c p l hf hl
  obtain ⟨hu, h⟩ := a1U hrow
  rcases h with ⟨⟨ao, rfl⟩, hnil, rfl⟩ | ⟨b, cap, ys, Ss, rfl, e3, e4, hR, el, eL, eV, rfl⟩
  ·have hl0 : l = [] := by simpa using hnil
   subst hl0
   have hIF := hI.calls V w [.slice ao 0 0, .func (.func f) #[] #[pv]] hm ⟨rfl, fun i s y e1 e2 => by
    match i with
    | 0 => simp at e1 e2; subst e1; subst e2; exact a9C ao
    | 1 => simp at e1 e2; subst e1; subst e2; exact hcl
    | i + 2 => simp at e1⟩
   have hD := a1W ao 0 0 w f #[pv] (hIF.mono (by
    rintro e w' ⟨y, rfl, hd⟩
    exact ⟨by simpa [dI] using zK hd, hd.below⟩))
   refine hD.mono ?_
   rintro e w' ⟨rfl, hb⟩
   exact ⟨_, rfl, (fun h => (by cases h)), ⟨lH _ hb, [], ⟨by simp, [], [], LayL.nil V, .inl ⟨⟨ao, rfl⟩, rfl, rfl⟩⟩, hnd, (fun b hb => .inl hb), (fun _ => rfl)⟩⟩
  ·rw [List.length_map] at e3 el
   have hlay := b7A (w := w) (ty := 117) hu eL (by simpa using e3) e4 eV
   have hcapl : (l.map aJ).length = l.length := by simp
   rw [hcapl] at hlay
   have hIF := hI.calls (xY V b ys) w [.slice (some ⟨b, 0, none⟩) l.length cap, .func (.func f) #[] #[pv]] (a6P hm hR) ⟨rfl, fun i s y e1 e2 => by
    match i with
    | 0 => simp at e1 e2; subst e1; subst e2; exact hlay
    | 1 => simp at e1 e2; subst e1; subst e2; exact hcl.mono (GLe.refl _) (a4M eV _)
    | i + 2 => simp at e1⟩
   rw [hcapl]
   rcases Nat.eq_zero_or_pos l.length with h0 | h0
   ·have hnil : l = [] := List.eq_nil_of_length_eq_zero h0
    subst hnil
    have hD := a1W (some ⟨b, 0, none⟩) 0 cap w f #[pv] (hIF.mono (by
     rintro e w' ⟨y, rfl, hd⟩
     exact ⟨by simpa [dI] using zK hd, hd.below⟩))
    refine hD.mono ?_
    rintro e w' ⟨rfl, hb⟩
    have hG := a8s (rows := []) (ys := []) (Ss := []) (G := []) (V := V) (by simp) (LayL.nil V) ((hR.behind hb).pre (List.nil_prefix)) (by simp) e4 eV
    exact ⟨_, rfl, (fun h => (by cases h)), ⟨lH _ hb, _, by simpa using hG, by simp, (fun b hb => .inl (by simp at hb; simp [hb])), (fun h => (by cases h))⟩⟩
   ·have hg := hf l[0] (List.getElem_mem h0)
    have hxl := a5J 4 p l ys
    have hxu := a7g 4 p l ys el
    have hxf := a3k 4 p l ys el
    obtain ⟨hs1, hs2⟩ := a5L 4 p l ys
    have hxg := a5K 4 p l ys
    have hx1 : ∀ x ∈ lC 4 p ys l, ∀ v ∈ x.1, v.oneCell' = true := fun x hx v hv => by
     refine eL.oneCell v ?_
     rw [← hxf]
     exact List.mem_flatten.2 ⟨x.1, List.mem_map.2 ⟨x, hx, rfl⟩, hv⟩
    have hW := a8t b cap (lC 4 p ys l) w f #[pv] (by rw [hxf]; exact hR) (by rw [hxl]; exact e3) (by simp only [maxLen] at e4; omega) hxu hx1 (dI p l 0) (by
        rcases idxP_spec p l 0 with h | ⟨k0, e1, e2, e5, e6⟩
        ·refine .inl ⟨h.1, fun x hx => ?_⟩
         obtain ⟨j, hj, rfl⟩ := List.mem_iff_getElem.1 hx
         rw [hxg j (by rw [hxl] at hj; exact hj) hj]
         exact h.2 _ (List.getElem_mem _)
        ·refine .inr ⟨k0, by rw [e1]; simp, by rw [hxl]; exact e2, ?_, fun j hj hjk => ?_⟩
         ·rw [hxg k0 e2]; exact e5
         ·rw [hxg j (by rw [hxl] at hj; exact hj) hj]; exact e6 j _ hjk) hg.enters (by
        rw [hxl]
        refine hIF.mono ?_
        rintro e w' ⟨y, rfl, hd⟩
        exact ⟨zK hd, hd.below⟩) (fun W F x hx hRW => by
        obtain ⟨j, hj, rfl⟩ := List.mem_iff_getElem.1 hx
        have hjl : j < l.length := by rw [hxl] at hj; exact hj
        rw [hxg j hjl hj]
        have hch := eL.chunk he j hjl
        refine ((hf l[j] (List.getElem_mem hjl)).calls V W [.agg ((ys.drop (j * 4)).take 4).toArray, pv] (hRW.mod hm eV) ⟨rfl, fun i s y e1 e2 => ?_⟩).mono ?_
        ·match i with
         | 0 => simp at e1 e2; subst e1; subst e2; exact ⟨_, rfl, b8P hch⟩
         | 1 => simp at e1 e2; subst e1; subst e2; exact hq
         | i + 2 => simp at e1
        ·rintro e w' ⟨y, rfl, hd⟩
         exact ⟨b2y hd, hd.below⟩)
    rw [hxl] at hW
    refine hW.mono ?_
    rintro e w' ⟨rfl, G, hG⟩
    rw [hs1] at hG
    rw [hs2]
    have hsel := eL.sel aJ p he
    have hup := a8s (V := V) (fun r hr => by obtain ⟨x, _, rfl⟩ := List.mem_map.1 hr; exact he x) hsel hG (by rw [List.length_map]; exact Nat.le_trans (List.length_filter_le _ _) e3) e4 eV
    rw [List.length_map] at hup
    have hsub := b0t 4 p l Ss
    have hfs : (a8u 4 p Ss l).flatten.Sublist Ss.flatten := a3l hsub
    refine ⟨_, rfl, (fun h => (by cases h)), ⟨hG.grown, _, hup, ?_, (fun n hn => .inl ?_), (fun h => (by cases h))⟩⟩
    ·exact hnd.sublist (hfs.cons_cons b)
    ·exact (hfs.cons_cons b).subset hn
def isName (s : ByteArray) (y : TAttr) : Bool := decide (y.fName = s)
def eO (s : ByteArray) (y : TAttr) : Bool := !(gQ y.fName s || decide (y.fName = s))
def jO (s : ByteArray) (l : List TAttr) : List TAttr := l.filter fun y => !isName s y
def a1S (s : ByteArray) (v : TValue) (l : List TAttr) : List TAttr := if v.fKind = 0 then jO s l else eU (bW (eO s) (jO s l)) ⟨s, v⟩ (jO s l)
def a5D (f : TFile) (s : ByteArray) (v : TValue) : TFile := { f with fAttrs := a1S s v f.fAttrs }
theorem a5E (s : ByteArray) (l : List TAttr) : (jO s l).length ≤ l.length := List.length_filter_le _ _
theorem yS (f : TFile) (h : f.fAttrs.length ≤ 4200000) : FnC Tryz.prog 178 [bC f] (wX f) := by
 refine ent Tryz.func178 rfl Tryz.call178 rfl (fun C => ?_); simp only [go_sem, st0, Tryz.ntmps178]
 refine fK (mJ f.fAttrs (by omega)) ?_
 exact aA ⟨⟨_, rfl, by simp only [go_sem]⟩, trivial⟩
theorem b1S (f : TFile) (h : f.fAttrs.length ≤ 4200000) : FnC Tryz.prog 150 [bC f] (wX f) := by
 refine ent Tryz.func150 rfl Tryz.call150 rfl (fun C => ?_); simp only [go_sem, st0, Tryz.ntmps150]
 refine aD ?_
 exact aA ⟨⟨_, rfl, by simp only [go_sem]⟩, trivial⟩
theorem b6g (s : ByteArray) (y : TAttr) : FnC Tryz.prog 260 [zZ y, .o (.q [sv s])] (ob (isName s y)) := by
 refine ent Tryz.func260 rfl Tryz.call260 rfl (fun C => ?_); simp only [go_sem, st0, Tryz.ntmps260]
 refine aD ?_
 exact aA ⟨⟨_, rfl, by simp only [go_sem, isName]⟩, trivial⟩
theorem b6h (s : ByteArray) (y : TAttr) : FnC Tryz.prog 262 [zZ y, .o (.q [sv s])] (ob (eO s y)) := by
 refine ent Tryz.func262 rfl Tryz.call262 rfl (fun C => ?_); simp only [go_sem, st0, Tryz.ntmps262]
 refine aD ?_
 exact aA ⟨⟨_, rfl, by simp only [go_sem, eO]⟩, trivial⟩
theorem a1T (s : ByteArray) (l : List TAttr) (h : l.length ≤ 8388608) : FnI Tryz.prog 259 117 4 (l.map aJ) [.o (.f 260 [[sv s]])] false ((jO s l).map aJ) :=
 a1V _ [sv s] (isName s) l (fun y _ => b6g s y) h
theorem a5F (f : TFile) (s : ByteArray) (v : TValue) (h : f.fAttrs.length ≤ 4200000) : FnC Tryz.prog 212 [bC f, os s, mI v] (wX (a5D f s v)) := by
 have hd := a5E s f.fAttrs
 refine ent Tryz.func212 rfl Tryz.call212 rfl (fun C => ?_); simp only [go_sem, st0, Tryz.ntmps212]
 by_cases hv : v.fKind = 0
 ·have e : a1S s v f.fAttrs = jO s f.fAttrs := if_pos hv
  have qH := aI @hv @decide_true; repeat' (with_reducible first | refine nY ?_ | (refine mX ?_; try simp only [go_sem, qH]) | refine kD ?_ | refine rD ?_ | refine cP (yS f h) ?_ | refine vI (a1T s f.fAttrs (by omega)) ?_ | refine vJ (a1T s f.fAttrs (by omega)) ?_ | refine aO ?_ | fail)
  exact aA ⟨⟨_, rfl, by simp only [go_sem, a5D, e, jO]⟩, trivial⟩
 have e : a1S s v f.fAttrs = eU (bW (eO s) (jO s f.fAttrs)) ⟨s, v⟩ (jO s f.fAttrs) := if_neg hv
 have hx := idxP_fst (eO s) (jO s f.fAttrs) 0
 have hle := tX (eO s) (jO s f.fAttrs)
 have qH := aI @hv @decide_false; repeat' (with_reducible first | refine nY ?_ | (refine mX ?_; try simp only [go_sem, qH]) | refine kD ?_ | refine rD ?_ | refine cP (yS f h) ?_ | refine vI (a1T s f.fAttrs (by omega)) ?_ | refine vJ (a1T s f.fAttrs (by omega)) ?_ | refine vL (nN _ [sv s] (eO s) (jO s f.fAttrs) (fun y _ => b6h s y) (by omega)) ?_ | refine aO ?_ | fail)
 refine cnd (b := decide (dI (eO s) (jO s f.fAttrs) 0 < 0)) rfl (fun h5 => ?_) (fun h5 => ?_)
 ·have h5' := of_decide_eq_true h5
  have e5 : bW (eO s) (jO s f.fAttrs) = (jO s f.fAttrs).length := by
   rcases hx with hx | hx
   ·exact hx.2.2
   ·omega
  have qH := trivial; repeat' (with_reducible first | refine nY ?_ | (refine mX ?_; try simp only [go_sem]) | refine kD ?_ | refine rD ?_ | refine vK (oF ((jO s f.fAttrs).map aJ) (aJ ⟨s, v⟩) (jO s f.fAttrs).length (by simp) (by simp; omega)) ?_ | refine aO ?_ | fail)
  exact aA ⟨⟨_, rfl, by simp only [go_sem, a5D, e, e5, eU, aJ, List.map_append, List.map_cons, pX, pY]⟩, trivial⟩
 ·have h5' := of_decide_eq_false h5
  have e5 : dI (eO s) (jO s f.fAttrs) 0 = ((bW (eO s) (jO s f.fAttrs) : Nat) : Int) := by
   rcases hx with hx | hx
   ·omega
   ·simpa using hx.1
  have qH := @e5; repeat' (with_reducible first | refine nY ?_ | (refine mX ?_; try simp only [go_sem, qH]) | refine kD ?_ | refine rD ?_ | refine vK (oF ((jO s f.fAttrs).map aJ) (aJ ⟨s, v⟩) (bW (eO s) (jO s f.fAttrs)) (by simpa using hle) (by simp; omega)) ?_ | refine aO ?_ | fail)
  exact aA ⟨⟨_, rfl, by simp only [go_sem, a5D, e, eU, aJ, List.map_append, List.map_cons, pX, pY]⟩, trivial⟩
theorem b4r (s : ByteArray) (l : List TAttr) (k : Nat) (h : k < l.length) : jO s (l.take (k + 1)) = jO s (l.take k) ++ (if isName s l[k] then [] else [l[k]]) := by
 simp only [jO, List.take_succ_eq_append_getElem h, List.filter_append, List.filter_cons, List.filter_nil]
 cases isName s l[k] <;> rfl
theorem a5G (f : TFile) (s : ByteArray) (v : TValue) (h : f.fAttrs.length ≤ 4200000) : FnC Tryz.prog 205 [bC f, os s, mI v] (wX (a5D f s v)) := by
 have hd := a5E s f.fAttrs
 refine ent Tryz.func205 rfl Tryz.call205 rfl (fun C => ?_); simp only [go_sem, st0, Tryz.ntmps205]
 refine aD ?_
 refine aM (α := Nat) (fun k => [(7, .o (.s 3)), (8, oi k), (11, .o .u)]) (fun k => [(3, .row 117 4 ((jO s (f.fAttrs.take k)).map aJ) true)]) (fun k => k ≤ f.fAttrs.length) (fun k => f.fAttrs.length - k) 0 (fun _ => ?_) ?_ ?_ (fun k hk => ?_)
 ·simp only [go_sem]
 ·simp only [go_sem]; simp [jO]
 ·simp
 ·simp only [go_sem]
  refine aD ?_
  refine cnd rfl (fun h1 => ?_) (fun h1 => ?_)
  ·simp only [decide_eq_true_eq, Int.ofNat_lt] at h1
   have ht := b4r s f.fAttrs k h1
   have hlen : (jO s (f.fAttrs.take k)).length ≤ 4200000 := by have := a5E s (f.fAttrs.take k); simp at this; omega
   have q0 := @h1; refine fD ?_
   refine cnd (b := !(isName s f.fAttrs[k])) rfl (fun h2 => ?_) (fun h2 => ?_)
   ·have h2' : isName s f.fAttrs[k] = false := by simpa using h2
    rw [h2'] at ht
    have hl1 : (jO s (f.fAttrs.take k)).length + 1 ≤ 140737488355328 := by omega
    have hl2 : ((jO s (f.fAttrs.take k)).length + 1) * 48 ≤ 140737488355328 := by omega
    have q0 := @h1; refine fD ?_
    refine aC (k + 1) ?_ ?_ ?_
    ·simp only [go_sem, ht, List.map_append]; simp [aJ]
    ·omega
    ·omega
   ·have h2' : isName s f.fAttrs[k] = true := by simpa using h2
    rw [h2'] at ht
    have q0 := @h1; refine fD ?_
    refine aC (k + 1) ?_ ?_ ?_
    ·simp only [go_sem, ht, List.map_append]; simp
    ·omega
    ·omega
  ·simp only [decide_eq_false_iff_not] at h1
   have e : k = f.fAttrs.length := by omega
   subst e
   by_cases hv : v.fKind = 0
   ·have e : a1S s v f.fAttrs = jO s f.fAttrs := if_pos hv
    have q0 := @hv; have q1 := @decide_true; refine fI ?_
    exact aA ⟨⟨_, rfl, by simp only [go_sem, a5D, e, List.take_length]⟩, trivial⟩
   have e : a1S s v f.fAttrs = eU (bW (eO s) (jO s f.fAttrs)) ⟨s, v⟩ (jO s f.fAttrs) := if_neg hv
   have htl : f.fAttrs.take f.fAttrs.length = f.fAttrs := List.take_length
   have q0 := @hv; have q1 := @decide_false; have q2 := @htl; refine lT ?_
   generalize hdl : jO s f.fAttrs = l at *
   refine WP.sees (Sees.frz 3 rfl) ?_
   simp only [go_sem]
   refine aM (α := Nat) (fun n => [(9, oi n)]) (fun _ => []) (fun n => n ≤ l.length ∧ bW (eO s) l = n + bW (eO s) (l.drop n)) (fun n => l.length - n) 0 (fun _ => ?_) ?_ ?_ (fun n hn => ?_)
   ·simp only [go_sem]
   ·simp only [go_sem]; simp
   ·simp
   ·obtain ⟨hn, hf⟩ := hn
    simp only [go_sem]
    by_cases h5 : n < l.length
    ·have hfx := b0s (eO s) l n h5 hf
     have h5' : ((n : Int) < (l.length : Int)) = True := by simp [h5]
     have q0 := @h5; have q1 := @h5'; have q2 := @decide_true; refine lT ?_
     refine cnd (b := !(eO s l[n])) (by simp only [eO, Bool.not_not]; try rfl) (fun h6 => ?_) (fun h6 => ?_)
     ·have h6 : eO s l[n] = false := by simpa using h6
      rw [if_neg (by simp [h6])] at hfx
      refine aD ?_
      refine aC (n + 1) ?_ ?_ ?_
      ·simp only [go_sem]; simp
      ·exact ⟨by omega, hfx⟩
      ·omega
     ·have h6 : eO s l[n] = true := by simpa using h6
      rw [if_pos h6] at hfx
      have qH := aI @h5 (aI @pX (aI @pY (aI @wV (aI @wW @a0Z)))); repeat' (with_reducible first | refine nY ?_ | (refine mX ?_; try simp only [go_sem, qH]) | refine kD ?_ | (apply rE [0,4,8,9] [] [1,2,3,5,6,7] [1,2,3,5,6,7] ((.c 0 [] [1,2,3,5,6,7] (.c 4 [] [5,6,7] (.c 8 [] [] (.c 9 [10] [10] .n .n) .n) (.c 8 [] [1,2,3] (.c 4 [] [] (.c 9 [10] [10] .n .n) .n) .n)) (.c 8 [] [1,2,3] (.c 0 [] [1,2,3] (.c 4 [] [] (.c 9 [10] [10] .n .n) .n) .n) .n))) (by simp only [go_sem]; rfl) (by simp only [go_sem]; rfl) (by simp only [go_sem]; rfl) (by decide +kernel); (focus simp only [go_sem]; done)) | exact bU | refine bF (uX ?_) ?_ | refine bG (aX ?_) ?_ | refine bH (aX ?_) ?_ | exact bE | (refine dB [(4, 5)] (by simp only [go_sem]; rfl) ?_; exact rfl) | exact oH | exact uB | refine rD ?_ | refine aO ?_ | fail)
      exact aA ⟨⟨_, rfl, by simp only [go_sem, a5D, e, hfx, eU, aJ, List.map_append, List.map_cons, List.append_assoc, List.cons_append, List.nil_append, List.take_length]⟩, trivial⟩
    ·have e' : n = l.length := by omega
     have hfx : bW (eO s) l = n := by rw [hf, e', List.drop_length]; rfl
     have h5' : ((n : Int) < (l.length : Int)) = False := by simp [h5]
     have qH := aI @h5 (aI @h5' (aI @decide_false (aI @pX (aI @pY (aI @wV (aI @wW @a0Z)))))); repeat' (with_reducible first | refine nY ?_ | (refine mX ?_; try simp only [go_sem, qH]) | refine kD ?_ | (apply rE [0,4,8,9] [] [1,2,3,5,6,7] [1,2,3,5,6,7] ((.c 0 [] [1,2,3,5,6,7] (.c 4 [] [5,6,7] (.c 8 [] [] (.c 9 [10] [10] .n .n) .n) (.c 8 [] [1,2,3] (.c 4 [] [] (.c 9 [10] [10] .n .n) .n) .n)) (.c 8 [] [1,2,3] (.c 0 [] [1,2,3] (.c 4 [] [] (.c 9 [10] [10] .n .n) .n) .n) .n))) (by simp only [go_sem]; rfl) (by simp only [go_sem]; rfl) (by simp only [go_sem]; rfl) (by decide +kernel); (focus simp only [go_sem]; done)) | exact bU | refine bF (uX ?_) ?_ | refine bG (aX ?_) ?_ | refine bH (aX ?_) ?_ | exact bE | (refine dB [(4, 5)] (by simp only [go_sem]; rfl) ?_; exact rfl) | exact oH | exact uB | refine rD ?_ | refine aO ?_ | fail)
     exact aA ⟨⟨_, rfl, by simp only [go_sem, a5D, e, hfx, eU, aJ, List.map_append, List.map_cons, List.append_assoc, List.cons_append, List.nil_append, e', List.take_length, List.drop_length]⟩, trivial⟩
theorem a5M {α : Type} (w : α → Nat) : ∀ l m : List α, wsum w (l ++ m) = wsum w l + wsum w m
 | [], m => by simp [wsum]
 | x :: l, m => by simp only [List.cons_append, wsum, a5M w l m]; omega
theorem a5N (i : Nat) (x : TAttr) (l : List TAttr) : aV (eU i x l) = aV l + (1 + wAttr x) := by
 have h1 : wsum wAttr l = wsum wAttr (l.take i) + wsum wAttr (l.drop i) := by rw [← a5M, List.take_append_drop]
 have h2 : l.length = (l.take i).length + (l.drop i).length := by rw [← List.length_append, List.take_append_drop]
 simp only [aV, eU, a5M, wsum, List.length_append, List.length_cons]
 omega
theorem a5O (a : List TAttr) : ∀ (b l r : List TAttr), gM a l b = some r → aV r ≤ aV l + aV b
 | [], l, r, h => by simp only [gM, Option.some.injEq] at h; subst h; omega
 | x :: b, l, r, h => by
  have e : aV (x :: b) = 1 + wAttr x + aV b := by simp only [aV, wsum, List.length_cons]; omega
  unfold gM at h
  split at h
  ·cases h
  ·split at h
   ·have := a5O a b l r h; omega
   ·have := a5O a b _ r h
    rw [a5N] at this
    omega
theorem b0u (a b : TEdit) : gG (iO a b) ≤ gG a + gG b := by
 unfold iO gG
 split
 ·split
  ·simp [aV, wsum]
  ·rename_i l h; exact a5O _ _ _ _ h
 ·simp [aV, wsum]
theorem oG (a b : TEdit) (ha : a.fSet.length ≤ 1048576) (hb : b.fSet.length ≤ 1048576) : FnC Tryz.prog 251 [gT a, gT b] (gT (iO a b)) := (a8p a b ha hb).pu (by simp only [go_sem, and_self])
def jB (l : List TAttr) (e : List TAttr) : List TAttr := e.foldl (fun l a => a1S a.fName a.fValue l) l
def kN (f : TFile) (e : TEdit) : TFile := { f with fAttrs := jB f.fAttrs e.fSet }
theorem a3e (l e : List TAttr) (k : Nat) (h : k < e.length) : jB l (e.take (k + 1)) = a1S e[k].fName e[k].fValue (jB l (e.take k)) := by
 simp only [jB, List.take_succ_eq_append_getElem h, List.foldl_append, List.foldl_cons, List.foldl_nil]
theorem b6f (s : ByteArray) : ∀ l : List TAttr, aV (jO s l) ≤ aV l
 | [] => by simp [jO]
 | x :: l => by
  have := b6f s l
  simp only [jO, aV] at this ⊢
  simp only [List.filter_cons]
  split <;> simp only [List.length_cons, wsum] <;> omega
theorem b8O (s : ByteArray) (v : TValue) (l : List TAttr) : aV (a1S s v l) ≤ aV l + (1 + wAttr ⟨s, v⟩) := by
 have := b6f s l
 unfold a1S
 split
 ·omega
 ·rw [a5N]; omega
theorem a5C (l : List TAttr) : ∀ (e : List TAttr) (k : Nat), aV (jB l (e.take k)) ≤ aV l + aV e := by
 have key : ∀ (e l : List TAttr), aV (jB l e) ≤ aV l + aV e := by
  intro e
  induction e with
  | nil => intro l; simp only [jB, List.foldl_nil]; omega
  | cons x e ih =>
   intro l
   have h1 := ih (a1S x.fName x.fValue l)
   have h2 := b8O x.fName x.fValue l
   have h4 : wAttr ⟨x.fName, x.fValue⟩ = wAttr x := rfl
   have h3 : aV (x :: e) = 1 + wAttr x + aV e := by simp only [aV, wsum, List.length_cons]; omega
   simp only [jB, List.foldl_cons] at h1 ⊢
   omega
 intro e k
 have h1 := key (e.take k) l
 have h2 : aV (e.take k) ≤ aV e := by
  have := rR wAttr e k
  simp only [aV, List.length_take]; omega
 omega
theorem nQ (l : List TAttr) : l.length ≤ aV l := by unfold aV; omega
theorem a3z (f : TFile) (s : ByteArray) (v : TValue) (h : f.fAttrs.length ≤ 4200000) : FnC Tryz.prog 205 [bC f, os s, mI v] (bC (a5D f s v)) := (a5G f s v h).pu (by simp only [go_sem, and_self])
theorem b0r (f : TFile) (h : f.fAttrs.length ≤ 4200000) : FnC Tryz.prog 150 [bC f] (bC f) := (b1S f h).pu (by simp only [go_sem, and_self])
theorem kX (f : TFile) (e : TEdit) (h : wFile f + gG e ≤ 4200000) : FnC Tryz.prog 135 [bC f, gT e] (bC (kN f e)) := by
 unfold wFile gG at h
 have hl := nQ f.fAttrs
 have hle := nQ e.fSet
 have hw := a5C f.fAttrs e.fSet
 refine ent Tryz.func135 rfl Tryz.call135 rfl (fun C => ?_); simp only [go_sem, st0, Tryz.ntmps135]
 refine fK (b0r f (by omega)) ?_
 refine aM (α := Nat) (fun k => [(5, oi k)]) (fun k => [(0, .box 70 [.d (iv f.fID), .d (iv f.fOwner), .d (bv f.fShared), .d (iv f.fLink), .d (.sl ((jB f.fAttrs (e.fSet.take k)).map aJ))])]) (fun k => k ≤ e.fSet.length) (fun k => e.fSet.length - k) 0 (fun _ => ?_) ?_ ?_ (fun k hk => ?_)
 ·simp only [go_sem]
 ·simp only [go_sem]; simp [jB]
 ·simp
 ·simp only [go_sem]
  refine aD ?_
  refine cnd rfl (fun h1 => ?_) (fun h1 => ?_)
  ·simp only [decide_eq_true_eq, Int.ofNat_lt] at h1
   have ht := a3e f.fAttrs e.fSet k h1
   have hwk := nQ (jB f.fAttrs (e.fSet.take k))
   have hwk2 := hw k
   have qH := @h1; repeat' (with_reducible first | refine nY ?_ | (refine mX ?_; try simp only [go_sem, qH]) | refine kD ?_ | (apply rE [13,14] [] [0,1,2,3,4,5,6,7,8,9,10,11,12] [0,1,2,3,4,5,6,7,8,9,10,11,12] ((.c 13 [] [] (.c 14 [] [] .n .n) .n)) (by simp only [go_sem]; rfl) (by simp only [go_sem]; rfl) (by simp only [go_sem]; rfl) (by decide +kernel); (focus simp only [go_sem]; done)) | exact bU | refine bF (uX ?_) ?_ | refine bG (aX ?_) ?_ | refine bH (aX ?_) ?_ | exact bE | exact oH | exact uB | refine rD ?_ | refine cP (a3z ⟨f.fID, f.fOwner, f.fShared, f.fLink, jB f.fAttrs (e.fSet.take k)⟩ e.fSet[k].fName e.fSet[k].fValue (by simp only; omega)) ?_ | refine aO ?_ | fail)
   refine aC (k + 1) ?_ ?_ ?_
   ·simp only [go_sem]; simp [ht, a5D]
   ·omega
   ·omega
  ·simp only [decide_eq_false_iff_not] at h1
   have e : k = e.fSet.length := by omega
   subst e
   refine aD ?_
   exact aA ⟨⟨_, rfl, by simp only [go_sem, List.take_length, kN]⟩, trivial⟩
theorem nR (f : TFile) (e : TEdit) (h : wFile f + gG e ≤ 4200000) : FnC Tryz.prog 143 [bC f, gT e] (wX (kN f e)) := by
 unfold wFile gG at h
 have hl := nQ f.fAttrs
 have hle := nQ e.fSet
 have hw := a5C f.fAttrs e.fSet
 refine ent Tryz.func143 rfl Tryz.call143 rfl (fun C => ?_); simp only [go_sem, st0, Tryz.ntmps143]
 refine fK (yS f (by omega)) ?_
 refine aM (α := Nat) (fun k => [(9, .o .u), (13, oi k)]) (fun k => [(3, .row 117 4 ((jB f.fAttrs (e.fSet.take k)).map aJ) true)]) (fun k => k ≤ e.fSet.length) (fun k => e.fSet.length - k) 0 (fun _ => ?_) ?_ ?_ (fun k hk => ?_)
 ·simp only [go_sem]
 ·simp only [go_sem]; simp [jB]
 ·simp
 ·simp only [go_sem]
  refine aD ?_
  refine cnd rfl (fun h1 => ?_) (fun h1 => ?_)
  ·simp only [decide_eq_true_eq, Int.ofNat_lt] at h1
   have ht := a3e f.fAttrs e.fSet k h1
   have hwk := nQ (jB f.fAttrs (e.fSet.take k))
   have hwk2 := hw k
   have q0 := @h1; refine eZ (a5F ⟨f.fID, f.fOwner, f.fShared, f.fLink, jB f.fAttrs (e.fSet.take k)⟩ e.fSet[k].fName e.fSet[k].fValue (by simp only; omega)) ?_
   refine a3B [(3, 6)] (k + 1) (by simp only [go_sem]; rfl) ?_ ?_ ?_
   ·simp only [go_sem]; simp [ht, a5D]
   ·omega
   ·omega
  ·simp only [decide_eq_false_iff_not] at h1
   have e : k = e.fSet.length := by omega
   subst e
   refine aD ?_
   exact aA ⟨⟨_, rfl, by simp only [go_sem, List.take_length, kN]⟩, trivial⟩
theorem rZ (f : TFile) (e : TEdit) (h : wFile f + gG e ≤ 4200000) : FnC Tryz.prog 143 [bC f, gT e] (bC (kN f e)) := (nR f e h).pu (by simp only [go_sem, and_self])
def canW (f : TFile) (u : Int) : Bool := inB u 0 2 && decide (f.fOwner = u)
def a2o (f : TFile) (u : Int) : Bool := inB u 0 2 && (decide (f.fOwner = u) || f.fShared)
theorem rU (f : TFile) (u : Int) : FnC Tryz.prog 105 [bC f, oi u] (ob (canW f u)) := by
 refine ent Tryz.func105 rfl Tryz.call105 rfl (fun C => ?_); simp only [go_sem, st0, Tryz.ntmps105]
 cases h : inB u 0 2
 all_goals
  have q0 := @h; refine eZ (jS u) ?_
  exact aA ⟨⟨_, rfl, by simp only [go_sem, canW, h, Bool.true_and, Bool.false_and]⟩, trivial⟩
theorem rV (f : TFile) (u : Int) : FnC Tryz.prog 86 [bC f, oi u] (ob (canW f u)) := by
 refine ent Tryz.func86 rfl Tryz.call86 rfl (fun C => ?_); simp only [go_sem, st0, Tryz.ntmps86]
 cases h : inB u 0 2
 all_goals
  have q0 := @h; refine eZ (bS u 0 2) ?_
  exact aA ⟨⟨_, rfl, by simp only [go_sem, canW, h, Bool.true_and, Bool.false_and]⟩, trivial⟩
theorem a2O (f : TFile) (u : Int) : FnC Tryz.prog 208 [bC f, oi u] (ob (a2o f u)) := by
 refine ent Tryz.func208 rfl Tryz.call208 rfl (fun C => ?_); simp only [go_sem, st0, Tryz.ntmps208]
 cases h : inB u 0 2
 ·have q0 := @h; refine eZ (jS u) ?_
  exact aA ⟨⟨_, rfl, by simp only [go_sem, a2o, h, Bool.false_and]⟩, trivial⟩
 by_cases h2 : f.fOwner = u
 ·have q0 := @h; have q1 := @h2; have q2 := @decide_true; refine jP (jS u) ?_
  exact aA ⟨⟨_, rfl, by simp only [go_sem, a2o, h, h2, decide_true, Bool.true_and, Bool.true_or]⟩, trivial⟩
 ·have q0 := @h; have q1 := @h2; have q2 := @decide_false; refine jP (jS u) ?_
  exact aA ⟨⟨_, rfl, by simp only [go_sem, a2o, h, h2, decide_false, Bool.true_and, Bool.false_or]⟩, trivial⟩
theorem a2P (f : TFile) (u : Int) : FnC Tryz.prog 202 [bC f, oi u] (ob (a2o f u)) := by
 refine ent Tryz.func202 rfl Tryz.call202 rfl (fun C => ?_); simp only [go_sem, st0, Tryz.ntmps202]
 cases h : inB u 0 2
 ·have q0 := @h; refine eZ (bS u 0 2) ?_
  exact aA ⟨⟨_, rfl, by simp only [go_sem, a2o, h, Bool.false_and]⟩, trivial⟩
 by_cases h2 : f.fOwner = u
 ·have q0 := @h; have q1 := @h2; have q2 := @decide_true; refine jP (bS u 0 2) ?_
  exact aA ⟨⟨_, rfl, by simp only [go_sem, a2o, h, h2, decide_true, Bool.true_and, Bool.true_or]⟩, trivial⟩
 ·have q0 := @h; have q1 := @h2; have q2 := @decide_false; refine jP (bS u 0 2) ?_
  exact aA ⟨⟨_, rfl, by simp only [go_sem, a2o, h, h2, decide_false, Bool.true_and, Bool.false_or]⟩, trivial⟩
theorem yC (c : TCatalog) (f : TFile) (h : wCatalog c + wFile f ≤ 4300000) : FnC Tryz.prog 106 [bZ c, bC f] (.t [(true, (bZ (mW c f)).cells), (false, [.d (.sl ((a6f c f).map jW))]), (false, [.d (bv (mK c f))])]) := (sN c f h).pu (by simp only [go_sem, and_self])
theorem b1v (c : TCatalog) (u id : Int) (h : wCatalog c ≤ 4300000) : FnC Tryz.prog 129 [bZ c, oi u, oi id] (.t [(true, (bC (dJ id c.fStore.fFiles)).cells), (false, [.d (bv (decide (0 ≤ ixF id c.fStore.fFiles) && (canW (dJ id c.fStore.fFiles) u && curB c)))])]) := by
 have hc : wCatalog c = aL c.fStore + aY c.fDirs + aG c.fResults := rfl
 refine ent Tryz.func129 rfl Tryz.call129 rfl (fun C => ?_); simp only [go_sem, st0, Tryz.ntmps129]
 by_cases h1 : 0 ≤ ixF id c.fStore.fFiles
 case neg =>
  have qH := aI @h1 @decide_false; repeat' (with_reducible first | refine nY ?_ | (refine mX ?_; try simp only [go_sem, qH]) | refine kD ?_ | refine rT [11] [] ?_ | refine dF (aX ?_) (uX ?_) | refine dY (aX ?_) ?_ | (refine uA ?_; simp only [go_sem, qH]; (repeat' first | omega | refine And.intro ?_ ?_ | refine cP (iG c.fStore id (by omega)) ?_ | refine cP (rV (dJ id c.fStore.fFiles) u) ?_ | refine cP (lU c h) ?_ | (refine mX ?_; simp only [go_sem, qH] <;> fail)); done) | refine rD ?_ | refine cP (iG c.fStore id (by omega)) ?_ | refine cP (rV (dJ id c.fStore.fFiles) u) ?_ | refine cP (lU c h) ?_ | refine aO ?_ | fail)
  exact aA ⟨⟨_, rfl, by simp only [go_sem, h1, decide_false, Bool.false_and]⟩, by simp [aU]⟩
 cases h2 : canW (dJ id c.fStore.fFiles) u
 all_goals
  have qH := aI @h1 (aI @h2 @decide_true); repeat' (with_reducible first | refine nY ?_ | (refine mX ?_; try simp only [go_sem, qH]) | refine kD ?_ | refine rT [11] [] ?_ | refine dF (aX ?_) (uX ?_) | refine dY (aX ?_) ?_ | (refine uA ?_; simp only [go_sem, qH]; (repeat' first | omega | refine And.intro ?_ ?_ | refine cP (iG c.fStore id (by omega)) ?_ | refine cP (rV (dJ id c.fStore.fFiles) u) ?_ | refine cP (lU c h) ?_ | (refine mX ?_; simp only [go_sem, qH] <;> fail)); done) | refine rD ?_ | refine cP (iG c.fStore id (by omega)) ?_ | refine cP (rV (dJ id c.fStore.fFiles) u) ?_ | refine cP (lU c h) ?_ | refine aO ?_ | fail)
  exact aA ⟨⟨_, rfl, by simp only [go_sem, h1, h2, decide_true, Bool.true_and, Bool.false_and]⟩, by simp [aU]⟩
def visF (u : Int) (l : List TFile) : List TFile := l.filter fun f => a2o f u
def b5k (f : TFile) : TFile := ⟨f.fID, f.fOwner, f.fShared, 0, f.fAttrs⟩
def vT (L : List TFile) (f : TFile) : TFile := if 0 ≤ ixF f.fLink L then f else b5k f
def pG (L : List TFile) (k : Nat) : List TFile := (L.take k).map (vT L) ++ L.drop k
def vis (s : TStore) (u : Int) : TStore := ⟨s.fSchema, (visF u s.fFiles).map (vT (visF u s.fFiles)), s.fNextID⟩
theorem a6H (u : Int) (l : List TFile) (k : Nat) (h : k < l.length) : visF u (l.take (k + 1)) = visF u (l.take k) ++ (if a2o l[k] u then [l[k]] else []) := by
 simp only [visF, List.take_succ_eq_append_getElem h, List.filter_append, List.filter_cons, List.filter_nil]
theorem xU (u : Int) (l : List TFile) : (visF u l).length ≤ l.length := List.length_filter_le _ _
theorem b2p (id : Int) : ∀ (l m : List TFile) (k : Nat), l.map TFile.fID = m.map TFile.fID → dI (fun f : TFile => decide (f.fID = id)) l k = dI (fun f : TFile => decide (f.fID = id)) m k
 | [], [], _, _ => rfl
 | [], _ :: _, _, h => by simp at h
 | _ :: _, [], _, h => by simp at h
 | x :: l, y :: m, k, h => by
  simp only [List.map_cons, List.cons.injEq] at h
  unfold dI
  rw [h.1, b2p id l m (k + 1) h.2]
theorem b2q {l m : List TFile} (id : Int) (h : l.map TFile.fID = m.map TFile.fID) : ixF id l = ixF id m := b2p id l m 0 h
theorem b6P (L : List TFile) (f : TFile) : (vT L f).fID = f.fID := by unfold vT; split <;> rfl
theorem a4s (L : List TFile) (k : Nat) : (pG L k).map TFile.fID = L.map TFile.fID := by
 unfold pG
 rw [List.map_append, List.map_map]
 have : (TFile.fID ∘ vT L) = TFile.fID := funext fun f => b6P L f
 rw [this, ← List.map_append, List.take_append_drop]
theorem a4t (L : List TFile) (k : Nat) : (pG L k).length = L.length := by
 have := congrArg List.length (a4s L k)
 simpa using this
theorem b2r (L : List TFile) (k : Nat) (h : k < L.length) : (pG L k)[k]'(by rw [a4t]; exact h) = L[k] := by
 unfold pG
 rw [List.getElem_append_right (by simp; omega), List.getElem_drop]
 congr 1
 simp; omega
theorem a6I (L : List TFile) (k : Nat) (h : k < L.length) : pG L (k + 1) = (pG L k).set k (vT L L[k]) := by
 unfold pG
 rw [List.take_succ_eq_append_getElem h, List.map_append, List.set_append_right _ _ (by simp; omega)]
 have e : k - ((L.take k).map (vT L)).length = 0 := by simp; omega
 rw [e, List.drop_eq_getElem_cons h, List.set_cons_zero, List.append_assoc]
 rfl
theorem a9o (L : List TFile) : pG L L.length = L.map (vT L) := by simp [pG]
theorem b8u (L : List TFile) (f : TFile) : wFile (vT L f) = wFile f := by unfold vT; split <;> rfl
theorem a9p {α : Type} (w : α → Nat) (g : α → α) (h : ∀ x, w (g x) = w x) : ∀ l : List α, wsum w (l.map g) = wsum w l
 | [] => rfl
 | x :: l => by simp only [List.map_cons, wsum, h, a9p w g h l]
theorem a2K {α : Type} (w : α → Nat) (p : α → Bool) : ∀ l : List α, wsum w (l.filter p) ≤ wsum w l
 | [] => by simp [wsum]
 | x :: l => by
  have := a2K w p l
  rw [List.filter_cons]
  split <;> simp only [wsum] <;> omega
theorem b2s (s : TStore) (u : Int) : aL (vis s u) ≤ aL s := by
 have h1 := xU u s.fFiles
 have h2 := a2K wFile (fun f => a2o f u) s.fFiles
 have h3 := a9p wFile (vT (visF u s.fFiles)) (b8u _) (visF u s.fFiles)
 unfold aL cZ vis
 simp only [List.length_map, h3]
 unfold visF at *
 omega
theorem b1d (s : TStore) (u : Int) (h : aL s ≤ 4300000) : FnC Tryz.prog 139 [cB s, oi u] (a0w (vis s u)) := by
 have h1 : s.fSchema.length ≤ 4300000 := by unfold aL aN at h; omega
 have h2 : s.fFiles.length + wsum wFile s.fFiles ≤ 4300000 := by unfold aL cZ at h; omega
 refine ent Tryz.func139 rfl Tryz.call139 rfl (fun C => ?_); simp only [go_sem, st0, Tryz.ntmps139]
 have qH := trivial; repeat' (with_reducible first | refine nY ?_ | (refine mX ?_; try simp only [go_sem]) | refine kD ?_ | (apply rE [2,6,7] [] [0,1,3,4] [0,1,3,4] ((.c 2 [5] [3,4,5] (.c 6 [] [3,4,5] (.c 7 [] [] .n .n) .n) (.c 6 [] [0,1,3,4] (.c 2 [5] [3,4,5] (.c 7 [] [] .n .n) .n) .n))) (by simp only [go_sem]; rfl) (by simp only [go_sem]; rfl) (by simp only [go_sem]; rfl) (by decide +kernel); (focus simp only [go_sem]; done)) | exact bU | refine bF (uX ?_) ?_ | refine bG (aX ?_) ?_ | refine bH (aX ?_) ?_ | exact bE | (refine dB [(2, 3)] (by simp only [go_sem]; rfl) ?_; exact rfl) | exact oH | (refine uA ?_; simp only [go_sem]; (repeat' first | omega | refine And.intro ?_ ?_); done) | refine rD ?_ | refine cP (a0b s.fSchema h1) ?_ | refine aO ?_ | fail)
 refine a7m 3 1 70 5 rfl rfl ?_
 simp only [go_sem]
 refine aM (α := Nat) (fun k => [(19, oi k)]) (fun k => [(4, .row 70 5 ((visF u (s.fFiles.take k)).map bN) true)]) (fun k => k ≤ s.fFiles.length) (fun k => s.fFiles.length - k) 0 (fun _ => ?_) ?_ ?_ (fun k hk => ?_)
 ·simp only [go_sem]
 ·simp only [go_sem]; simp [visF]
 ·simp
 ·simp only [go_sem]
  refine aD ?_
  refine cnd rfl (fun h3 => ?_) (fun h3 => ?_)
  ·simp only [decide_eq_true_eq, Int.ofNat_lt] at h3
   have hw := bB wFile s.fFiles h3
   have hx : s.fFiles[k].fAttrs.length ≤ 4300000 := by
    have e : s.fFiles[k].fAttrs.length ≤ wFile s.fFiles[k] := by unfold wFile aV; omega
    omega
   have ht := a6H u s.fFiles k h3
   have hn : (visF u (s.fFiles.take k)).length ≤ 4300000 := by have := xU u (s.fFiles.take k); simp at this; omega
   cases hc : a2o s.fFiles[k] u
   ·rw [hc] at ht
    have q0 := @h3; have q1 := @hc; refine jZ (a2O s.fFiles[k] u) ?_
    refine aC (k + 1) ?_ ?_ ?_
    ·simp only [go_sem, ht]; simp
    ·omega
    ·omega
   ·rw [hc] at ht
    have qH := aI @h3 @hc; repeat' (with_reducible first | refine nY ?_ | (refine mX ?_; try simp only [go_sem, qH]) | refine kD ?_ | (apply rE [3,4,5,7] [] [0,1,2] [0,1,2] ((.c 3 [] [0,1] (.c 4 [] [0,1] (.c 5 [6] [6] (.c 7 [] [] .n .n) .n) .n) .n)) (by simp only [go_sem]; rfl) (by simp only [go_sem]; rfl) (by simp only [go_sem]; rfl) (by decide +kernel); (focus simp only [go_sem]; done)) | exact bU | refine bF (uX ?_) ?_ | refine bG (aX ?_) ?_ | refine bH (aX ?_) ?_ | exact bE | exact oH | exact uB | refine rD ?_ | refine cP (a2O s.fFiles[k] u) ?_ | refine cP (zL s.fFiles[k] hx) ?_ | refine aO ?_ | fail)
    refine aC (k + 1) ?_ ?_ ?_
    ·simp only [go_sem, ht, List.map_append]; simp [bN]
    ·omega
    ·omega
  ·simp only [decide_eq_false_iff_not] at h3
   have e : k = s.fFiles.length := by omega
   subst e
   rw [List.take_length]
   have hL : (visF u s.fFiles).length ≤ 4300000 := by have := xU u s.fFiles; omega
   unfold vis
   generalize visF u s.fFiles = L at *
   refine aD ?_
   refine aM (α := Nat) (fun k => [(37, oi k)]) (fun k => [(4, .row 70 5 ((pG L k).map bN) true)]) (fun k => k ≤ L.length) (fun k => L.length - k) 0 (fun _ => ?_) ?_ ?_ (fun k hk => ?_)
   ·simp only [go_sem]
   ·simp only [go_sem]; simp [pG]
   ·simp
   ·simp only [go_sem]
    have hln := a4t L k
    have q0 := @hln; refine fD ?_
    refine cnd rfl (fun h4 => ?_) (fun h4 => ?_)
    ·simp only [decide_eq_true_eq, Int.ofNat_lt] at h4
     have h4' : k < (pG L k).length := by omega
     have hat := b2r L k h4
     have hst := a6I L k h4
     have hfa := zB ⟨s.fSchema, pG L k, s.fNextID⟩ L[k].fLink (by simp only; omega)
     rw [show ixF L[k].fLink (TStore.fFiles ⟨s.fSchema, pG L k, s.fNextID⟩) = ixF L[k].fLink L from b2q _ (a4s L k)] at hfa
     rcases ixF_cases L[k].fLink L with e | ⟨p, e, _⟩
     ·have hy : (-1 : Int) < 0 := by omega
      have hfx : vT L L[k] = b5k L[k] := by unfold vT; rw [if_neg (by omega)]
      rw [e] at hfa
      rw [hfx] at hst
      have qH := aI @h4 (aI @h4' (aI @hat (aI @hy @decide_true))); repeat' (with_reducible first | refine nY ?_ | (refine mX ?_; try simp only [go_sem, qH]) | refine kD ?_ | refine rD ?_ | refine vL hfa ?_ | refine aO ?_ | fail)
      refine aC (k + 1) ?_ ?_ ?_
      ·simp only [go_sem, hst]; simp [bN, b5k]
      ·omega
      ·omega
     ·have hy : ¬ (p : Int) < 0 := by omega
      have hfx : vT L L[k] = L[k] := by unfold vT; rw [if_pos (by omega)]
      rw [e] at hfa
      rw [hfx] at hst
      have hsame : (pG L k).set k L[k] = pG L k := by rw [← hat]; exact List.set_getElem_self _
      rw [hsame] at hst
      have qH := aI @h4 (aI @h4' (aI @hat (aI @hy @decide_false))); repeat' (with_reducible first | refine nY ?_ | (refine mX ?_; try simp only [go_sem, qH]) | refine kD ?_ | refine rD ?_ | refine vL hfa ?_ | refine aO ?_ | fail)
      refine aC (k + 1) ?_ ?_ ?_
      ·simp only [go_sem, hst]; simp
      ·omega
      ·omega
    ·simp only [decide_eq_false_iff_not] at h4
     have e : k = L.length := by omega
     subst e
     rw [a9o]
     refine aD ?_
     exact aA ⟨⟨_, rfl, by simp only [go_sem]⟩, trivial⟩
theorem b1e (s : TStore) (u : Int) (h : aL s ≤ 4300000) : FnC Tryz.prog 132 [cB s, oi u] (a0w (vis s u)) := by
 have h1 : s.fSchema.length ≤ 4300000 := by unfold aL aN at h; omega
 have h2 : s.fFiles.length + wsum wFile s.fFiles ≤ 4300000 := by unfold aL cZ at h; omega
 refine ent Tryz.func132 rfl Tryz.call132 rfl (fun C => ?_); simp only [go_sem, st0, Tryz.ntmps132]
 have qH := trivial; repeat' (with_reducible first | refine nY ?_ | (refine mX ?_; try simp only [go_sem]) | refine kD ?_ | (apply rE [0,3,7,8] [] [1,2,4,5] [1,2,4,5] ((.c 0 [] [1,2,4,5] (.c 3 [6] [4,5,6] (.c 7 [] [4,5,6] (.c 8 [] [] .n .n) .n) (.c 7 [] [1,2,4,5] (.c 3 [6] [4,5,6] (.c 8 [] [] .n .n) .n) .n)) (.c 7 [] [1,2,4,5] (.c 0 [] [1,2,4,5] (.c 3 [6] [4,5,6] (.c 8 [] [] .n .n) .n) .n) .n))) (by simp only [go_sem]; rfl) (by simp only [go_sem]; rfl) (by simp only [go_sem]; rfl) (by decide +kernel); (focus simp only [go_sem]; done)) | exact bU | refine bF (uX ?_) ?_ | refine bG (aX ?_) ?_ | refine bH (aX ?_) ?_ | exact bE | (refine dB [(2, 3)] (by simp only [go_sem]; rfl) ?_; exact rfl) | exact oH | (refine uA ?_; simp only [go_sem]; (repeat' first | omega | refine And.intro ?_ ?_); done) | refine rD ?_ | refine aO ?_ | fail)
 refine a7m 3 1 70 5 rfl rfl ?_
 simp only [go_sem]
 refine aM (α := Nat) (fun k => [(6, oi k)]) (fun k => [(4, .row 70 5 ((visF u (s.fFiles.take k)).map bN) true)]) (fun k => k ≤ s.fFiles.length) (fun k => s.fFiles.length - k) 0 (fun _ => ?_) ?_ ?_ (fun k hk => ?_)
 ·simp only [go_sem]
 ·simp only [go_sem]; simp [visF]
 ·simp
 ·simp only [go_sem]
  refine aD ?_
  refine cnd rfl (fun h3 => ?_) (fun h3 => ?_)
  ·simp only [decide_eq_true_eq, Int.ofNat_lt] at h3
   have hw := bB wFile s.fFiles h3
   have hx : s.fFiles[k].fAttrs.length ≤ 4300000 := by
    have e : s.fFiles[k].fAttrs.length ≤ wFile s.fFiles[k] := by unfold wFile aV; omega
    omega
   have ht := a6H u s.fFiles k h3
   have hn : (visF u (s.fFiles.take k)).length ≤ 4300000 := by have := xU u (s.fFiles.take k); simp at this; omega
   cases hc : a2o s.fFiles[k] u
   ·rw [hc] at ht
    have q0 := @h3; have q1 := @hc; refine jZ (a2P s.fFiles[k] u) ?_
    refine aC (k + 1) ?_ ?_ ?_
    ·simp only [go_sem, ht]; simp
    ·omega
    ·omega
   ·rw [hc] at ht
    have qH := aI @h3 @hc; repeat' (with_reducible first | refine nY ?_ | (refine mX ?_; try simp only [go_sem, qH]) | refine kD ?_ | (apply rE [7,8,9,11] [] [0,1,2,3,4,5,6] [0,1,2,3,4,5,6] ((.c 7 [] [0,1] (.c 8 [] [0,1] (.c 9 [10] [10] (.c 11 [] [] .n .n) .n) .n) .n)) (by simp only [go_sem]; rfl) (by simp only [go_sem]; rfl) (by simp only [go_sem]; rfl) (by decide +kernel); (focus simp only [go_sem]; done)) | exact bU | refine bF (uX ?_) ?_ | refine bG (aX ?_) ?_ | refine bH (aX ?_) ?_ | exact bE | exact oH | exact uB | refine rD ?_ | refine cP (a2P s.fFiles[k] u) ?_ | refine cP (a1s s.fFiles[k] hx) ?_ | refine aO ?_ | fail)
    refine aC (k + 1) ?_ ?_ ?_
    ·simp only [go_sem, ht, List.map_append]; simp [bN]
    ·omega
    ·omega
  ·simp only [decide_eq_false_iff_not] at h3
   have e : k = s.fFiles.length := by omega
   subst e
   rw [List.take_length]
   have hL : (visF u s.fFiles).length ≤ 4300000 := by have := xU u s.fFiles; omega
   unfold vis
   generalize visF u s.fFiles = L at *
   refine aD ?_
   refine aM (α := Nat) (fun k => [(7, oi k)]) (fun k => [(4, .row 70 5 ((pG L k).map bN) true)]) (fun k => k ≤ L.length) (fun k => L.length - k) 0 (fun _ => ?_) ?_ ?_ (fun k hk => ?_)
   ·simp only [go_sem]
   ·simp only [go_sem]; simp [pG]
   ·simp
   ·simp only [go_sem]
    have hln := a4t L k
    have q0 := @hln; refine fD ?_
    refine cnd rfl (fun h4 => ?_) (fun h4 => ?_)
    ·simp only [decide_eq_true_eq, Int.ofNat_lt] at h4
     have h4' : k < (pG L k).length := by omega
     have hat := b2r L k h4
     have hst := a6I L k h4
     have hfa := rM ⟨s.fSchema, pG L k, s.fNextID⟩ L[k].fLink (by simp only; omega)
     rw [show ixF L[k].fLink (TStore.fFiles ⟨s.fSchema, pG L k, s.fNextID⟩) = ixF L[k].fLink L from b2q _ (a4s L k)] at hfa
     rcases ixF_cases L[k].fLink L with e | ⟨p, e, _⟩
     ·have hy : (-1 : Int) < 0 := by omega
      have hfx : vT L L[k] = b5k L[k] := by unfold vT; rw [if_neg (by omega)]
      rw [e] at hfa
      rw [hfx] at hst
      have qH := aI @h4 (aI @h4' (aI @hat (aI @hy @decide_true))); repeat' (with_reducible first | refine nY ?_ | (refine mX ?_; try simp only [go_sem, qH]) | refine kD ?_ | refine rD ?_ | refine vO hfa ?_ | refine vQ hfa ?_ | refine aO ?_ | fail)
      refine aC (k + 1) ?_ ?_ ?_
      ·simp only [go_sem, hst]; simp [bN, b5k]
      ·omega
      ·omega
     ·have hy : ¬ (p : Int) < 0 := by omega
      have hfx : vT L L[k] = L[k] := by unfold vT; rw [if_pos (by omega)]
      rw [e] at hfa
      rw [hfx] at hst
      have hsame : (pG L k).set k L[k] = pG L k := by rw [← hat]; exact List.set_getElem_self _
      rw [hsame] at hst
      have qH := aI @h4 (aI @h4' (aI @hat (aI @hy @decide_false))); repeat' (with_reducible first | refine nY ?_ | (refine mX ?_; try simp only [go_sem, qH]) | refine kD ?_ | refine rD ?_ | refine vO hfa ?_ | refine vQ hfa ?_ | refine aO ?_ | fail)
      refine aC (k + 1) ?_ ?_ ?_
      ·simp only [go_sem, hst]; simp
      ·omega
      ·omega
    ·simp only [decide_eq_false_iff_not] at h4
     have e : k = L.length := by omega
     subst e
     rw [a9o]
     refine aD ?_
     exact aA ⟨⟨_, rfl, by simp only [go_sem]⟩, trivial⟩
end Go.Proofs.YteaaopodnbjpoaaGreat
end
