/- Joined texts. -/
import Derived.Test.YtjkbipgmckeckaaZ11
import Derived.Test.YtjkbipgmckeckaaZ06
import Derived.Shelf.RegionOpenPlain
import Derived.WalkKit
import Derived.Deep.LoopGhost
import Derived.Deep.Draws
import Derived.Lib.Walk
import Derived.Lib.SliceRun
import Derived.Shelf.SlicesE.Kit
import Derived.Shelf.SlicesE.DeleteFunc
import Derived.Test.YtjkbipgmckeckaaZ09
import Derived.Test.YtjkbipgmckeckaaZ10
set_option linter.all false
section
namespace Go.Proofs.Ytjkbipgmckeckaa
open Go Go.Sx Go.RowKit Go.Proofs Go.Lib
set_option maxHeartbeats 4000000 in
set_option maxRecDepth 1000000 in
theorem a0P (b cap : Nat) (xs : List (List Value × Bool)) (w : World) (g : Nat) (lb : Array Value) (hR : RowAt w w b 65 (cap * 4) (xs.map (·.1)).flatten) (hn : xs.length ≤ cap) (hbig : cap ≤ 9223372036854775807) (hun : ∀ x ∈ xs, x.1.length = 4) (h1c : ∀ x ∈ xs, ∀ v ∈ x.1, v.oneCell' = true) (kk : Int)
    (hk : (kk = -1 ∧ ∀ x ∈ xs, x.2 = false) ∨ ∃ k0 : Nat, kk = k0 ∧ ∃ h : k0 < xs.length, xs[k0].2 = true ∧ ∀ j (hj : j < xs.length), j < k0 → xs[j].2 = false)
    (eg : ∀ args w, (callFunc g args).run Try.prog w = .ok (.enter g args) w)
    (hIF : Calls Try.prog 35 #[.slice (some ⟨b, 0, none⟩) xs.length cap, .func (.func g) #[] lb] w fun e w' => e = .returned (.int .i64 kk) ∧ Below w.heap.size w w')
    (hp : ∀ W F x, x ∈ xs → RowAt w W b 65 (cap * 4) F → Calls Try.prog g (#[.agg x.1.toArray] ++ lb) W fun e w' => e = .returned (.bool x.2) ∧ Below W.heap.size W w') :
    Calls Try.prog 72 #[.slice (some ⟨b, 0, none⟩) xs.length cap, .func (.func g) #[] lb] w fun e w' =>
     e = .returned (.slice (some ⟨b, 0, none⟩) (xs.filter fun x => !x.2).length cap) ∧ ∃ G, RowAt w w' b 65 (cap * 4) (((xs.filter fun x => !x.2).map (·.1)).flatten ++ G) := by
 have e6 := Try.call35
 rcases hk with ⟨rfl, hall⟩ | ⟨k0, rfl, hk0, ht, hall⟩
 ·have hkeep : (xs.filter fun x => !x.2) = xs := List.filter_eq_self.2 fun x hx => by rw [hall x hx]; rfl
  rw [hkeep]
  have HR : Aside (RowAt w w b 65 (cap * 4) (xs.map (·.1)).flatten) := hR
  clear hR hp h1c hun
  go_enter Try.func72, Try.ntmps72
  go_wp2_with fail
  refine hIF.mono ?_
  rintro e w' ⟨rfl, hb⟩
  go_wp2
  go_ret
  exact ⟨rfl, [], by simpa using HR.out.behind hb⟩
 ·have hne1 : ((k0 : Int) == -1) = false := beq_eq_false_iff_ne.2 (by omega)
  have HS : Aside (DelK 4 xs k0 (k0 + 1) (xs.map (·.1)).flatten) := DelK.start hun hk0 hall ht
  have HR : Aside (RowAt w w b 65 (cap * 4) (xs.map (·.1)).flatten) := hR
  have HC : Aside _ := hp
  have HO : Aside _ := h1c
  clear hR hp ht hall h1c hun
  go_enter Try.func72, Try.ntmps72
  go_wp2_with fail
  refine hIF.mono ?_
  rintro e w' ⟨rfl, hb⟩
  go_wp2
  go_loopg [5, 6, 7] xs.length (fun gg s5 s6 _ wr => ∃ (i j : Nat) (F : List Value), s5 = .int .i64 i ∧ s6 = .int .i64 j ∧ j ≤ xs.length ∧ xs.length - j ≤ gg ∧ Aside (RowAt w wr b 65 (cap * 4) F) ∧ Aside (DelK 4 xs i j F))
  case atStart => exact ⟨k0, k0 + 1, _, rfl, by go_num, by omega, by omega, HR.out.behind hb, HS⟩
  case round =>
   obtain ⟨i, j, F, rfl, rfl, hjd, hgg, R2, I2⟩ := hrel
   have hI := I2.out
   have hlF := hI.len
   have hij := hI.ij
   by_cases hlt : j < xs.length
   ·have hltz : (j : Int) < (xs.length : Int) := by omega
    obtain ⟨v0, v1, v2, v3, hu⟩ : ∃ v0 v1 v2 v3, xs[j].1 = [v0, v1, v2, v3] := by
     have := hI.un xs[j] (List.getElem_mem hlt)
     match hq : xs[j].1, this with
     | [v0, v1, v2, v3], _ => exact ⟨v0, v1, v2, v3, rfl⟩
    have c0 : wr.cell? ⟨b, j * 4, none⟩ = some v0 := R2.out.cell (hI.at hlt (t := 0) (by rw [hu]; rfl))
    have c1 : wr.cell? ⟨b, j * 4 + 1, none⟩ = some v1 := R2.out.cell (hI.at hlt (t := 1) (by rw [hu]; rfl))
    have c2 : wr.cell? ⟨b, j * 4 + 2, none⟩ = some v2 := R2.out.cell (hI.at hlt (t := 2) (by rw [hu]; rfl))
    have c3 : wr.cell? ⟨b, j * 4 + 3, none⟩ = some v3 := R2.out.cell (hI.at hlt (t := 3) (by rw [hu]; rfl))
    have o0 : v0.oneCell' = true := HO.out xs[j] (List.getElem_mem hlt) v0 (by rw [hu]; simp)
    have s0 := fun (W : World) (a : Addr) (m : Mode) => run_store Try.prog W a v0 m o0
    have o1 : v1.oneCell' = true := HO.out xs[j] (List.getElem_mem hlt) v1 (by rw [hu]; simp)
    have s1 := fun (W : World) (a : Addr) (m : Mode) => run_store Try.prog W a v1 m o1
    have o2 : v2.oneCell' = true := HO.out xs[j] (List.getElem_mem hlt) v2 (by rw [hu]; simp)
    have s2 := fun (W : World) (a : Addr) (m : Mode) => run_store Try.prog W a v2 m o2
    have o3 : v3.oneCell' = true := HO.out xs[j] (List.getElem_mem hlt) v3 (by rw [hu]; simp)
    have s3 := fun (W : World) (a : Addr) (m : Mode) => run_store Try.prog W a v3 m o3
    have C : Aside (xs[j].1 = [v0, v1, v2, v3]) := hu
    have hcall := HC.out (wr.alloc (.cells #[v0, v1, v2, v3] 65)) F xs[j] (List.getElem_mem hlt) (R2.out.behind (iE wr _))
    rw [hu] at hcall
    clear hu hI
    cases hq : xs[j].2 with
    | false =>
     rw [hq] at hcall
     go_wp2_with fail
     refine hcall.mono ?_
     rintro e w'' ⟨rfl, hb'⟩
     have d0 : w''.cell? ⟨wr.heap.size, 0, none⟩ = some v0 := sP hb' rfl
     have d1 : w''.cell? ⟨wr.heap.size, 1, none⟩ = some v1 := sP hb' rfl
     have d2 : w''.cell? ⟨wr.heap.size, 2, none⟩ = some v2 := sP hb' rfl
     have d3 : w''.cell? ⟨wr.heap.size, 3, none⟩ = some v3 := sP hb' rfl
     have R3 := (R2.out.behind (iE wr _)).behind hb'
     have hil : i * 4 + 4 ≤ F.length := by
      have : (i + 1) * 4 ≤ xs.length * 4 := Nat.mul_le_mul_right _ (by omega)
      rw [hlF]; rw [Nat.add_mul] at this; omega
     have e0' := R3.cell (List.getElem?_eq_getElem (show i * 4 < F.length by omega))
     have f0' := R3.frozen (i * 4)
     have e1' := R3.cell (List.getElem?_eq_getElem (show i * 4 + 1 < F.length by omega))
     have f1' := R3.frozen (i * 4 + 1)
     have e2' := R3.cell (List.getElem?_eq_getElem (show i * 4 + 2 < F.length by omega))
     have f2' := R3.frozen (i * 4 + 2)
     have e3' := R3.cell (List.getElem?_eq_getElem (show i * 4 + 3 < F.length by omega))
     have f3' := R3.frozen (i * 4 + 3)
     have A3 : Aside (RowAt w w'' b 65 (cap * 4) F) := R3
     have hbn : ¬ (b = wr.heap.size) := by have := R2.out.lt; omega
     clear R3
     generalize F[i * 4] = old0 at e0'
     generalize F[i * 4 + 1] = old1 at e1'
     generalize F[i * 4 + 2] = old2 at e2'
     generalize F[i * 4 + 3] = old3 at e3'
     go_wp2
     go_roundg (xs.length - (j + 1))
     case measure => omega
     case rel =>
      refine ⟨i + 1, j + 1, F.take (i * 4) ++ xs[j].1 ++ F.drop (i * 4 + xs[j].1.length), by go_num, by go_num, by omega, Nat.le_refl _, (show Aside _ from ?_), (show Aside _ from ?_)⟩
      ·rw [C.out]
       have h := A3.out.set [v0, v1, v2, v3] (s := i * 4) (by omega) (by have := A3.out.le; simp; omega)
       exact h
      ·exact I2.out.keep hlt hq
    | true =>
     rw [hq] at hcall
     go_wp2_with fail
     refine hcall.mono ?_
     rintro e w'' ⟨rfl, hb'⟩
     go_wp2
     go_roundg (xs.length - (j + 1))
     case measure => omega
     case rel => exact ⟨i, j + 1, F, rfl, by go_num, by omega, Nat.le_refl _, (R2.out.behind (iE wr _)).behind hb', I2.out.skip hlt hq⟩
   ·obtain rfl : j = xs.length := by omega
    have hltz : ¬ (xs.length : Int) < (xs.length : Int) := by omega
    have hRN := R2.out.le
    obtain ⟨hlo, hil⟩ := hI.fin
    have hle : i * 4 ≤ xs.length * 4 := Nat.mul_le_mul_right _ (by omega)
    have hsub : (xs.length - i) * 4 = xs.length * 4 - i * 4 := Nat.sub_mul ..
    have hzl := qB (.agg #[.string ⟨#[]⟩, .int .i64 0, .int .i64 0, .string ⟨#[]⟩] : Value).cells (xs.length - i)
    have hzs : (.agg #[.string ⟨#[]⟩, .int .i64 0, .int .i64 0, .string ⟨#[]⟩] : Value).cells.size = 4 := rfl
    rw [hzs] at hzl
    have hcl : ∀ ty, (Builtin.clear_ #[24] ty #[.slice (some ⟨b, i * 4, none⟩) (xs.length - i) (cap - i)]).run Try.prog wr = .ok (.tuple #[]) (wr.setCells b (i * 4) (Builtin.zeroCells (.agg #[.string ⟨#[]⟩, .int .i64 0, .int .i64 0, .string ⟨#[]⟩] : Value).cells (xs.length - i)).toList) :=
     fun ty => a1M wr _ _ ty _ Try.underlying24 (fun w => Try.zeroValue65 w) b (i * 4) _ _ (by omega) (fun t ht => R2.out.there (by rw [hzs] at ht; omega)) (fun t ht => R2.out.frozen _) (yL (by intro v hv; simp [Value.cells] at hv; rcases hv with rfl | rfl | rfl | rfl <;> rfl) _)
    have HE : Aside (∃ G, RowAt w (wr.setCells b (i * 4) (Builtin.zeroCells (.agg #[.string ⟨#[]⟩, .int .i64 0, .int .i64 0, .string ⟨#[]⟩] : Value).cells (xs.length - i)).toList) b 65 (cap * 4) (((xs.filter fun x => !x.2).map (·.1)).flatten ++ G)) := by
     have := R2.out.set (Builtin.zeroCells (.agg #[.string ⟨#[]⟩, .int .i64 0, .int .i64 0, .string ⟨#[]⟩] : Value).cells (xs.length - i)).toList (s := i * 4) (by omega) (by rw [hzl]; omega)
     rw [hlo, List.append_assoc] at this
     exact ⟨_, this⟩
    have HL : Aside (i = (xs.filter fun x => !x.2).length) := hil
    clear hil hlo hle hI hzl
    go_wp2
    go_ret
    exact ⟨by rw [← HL.out]; rfl, HE.out⟩
set_option maxHeartbeats 4000000 in
set_option maxRecDepth 1000000 in
theorem sO (ao : Option Addr) (n cap : Nat) (w : World) (g : Nat) (lb : Array Value)
    (hIF : Calls Try.prog 35 #[.slice ao n cap, .func (.func g) #[] lb] w fun e w' => e = .returned (.int .i64 (-1)) ∧ Below w.heap.size w w') :
    Calls Try.prog 72 #[.slice ao n cap, .func (.func g) #[] lb] w fun e w' => e = .returned (.slice ao n cap) ∧ Below w.heap.size w w' := by
 have e6 := Try.call35
 go_enter Try.func72, Try.ntmps72
 go_wp2_with fail
 refine hIF.mono ?_
 rintro e w' ⟨rfl, hb⟩
 go_wp2
 go_ret
 exact ⟨rfl, hb⟩
end Go.Proofs.Ytjkbipgmckeckaa
end
section
set_option maxRecDepth 100000
set_option maxHeartbeats 4000000
namespace Go.Proofs.Ytjkbipgmckeckaa
open Go Go.Sx Go.RowKit Go.Proofs
theorem sN (f : Nat) (c : List D) (p : TAttr → Bool) (l : List TAttr) (hf : ∀ s ∈ l, FnC Try.prog f [a1D s, .o (.q c)] (ob (p s))) (hl : l.length ≤ 8388608) :
    FnI Try.prog 72 65 4 (l.map aT) [.o (.f f [c])] false ((l.filter fun x => !p x).map aT) := by
 have he : ∀ x : TAttr, (aT x).length = 4 := fun x => rfl
 refine ⟨Try.call72, fun V w y S vs hm hrow hnd hlt hargs => ?_⟩
 have hl1 : vs.length = 1 := by have := hargs.1; simpa using this
 match vs, hl1 with
 | [v], _ =>
  have hv := hargs.2 0 _ v rfl rfl
  obtain ⟨lb, rfl, hlb, hcaps⟩ := hv
  have hcl : cSV [] V (.o (.f f [c])) (.func (.func f) #[] lb.toArray) := ⟨lb, rfl, hlb, hcaps⟩
  have hone : ∃ pv, lb = [pv] := by
   match lb, hlb with
   | [pv], _ => exact ⟨pv, rfl⟩
  obtain ⟨pv, rfl⟩ := hone
  have hq : cSV [] V (.o (.q c)) pv := hcaps 0 c pv rfl rfl
  have hI := gW f c p l hf hl
  obtain ⟨hu, h⟩ := xH hrow
  rcases h with ⟨⟨ao, rfl⟩, hnil, rfl⟩ | ⟨b, cap, ys, Ss, rfl, e3, e4, hR, el, eL, eV, rfl⟩
  ·have hl0 : l = [] := by simpa using hnil
   subst hl0
   have hIF := hI.calls V w [.slice ao 0 0, .func (.func f) #[] #[pv]] hm ⟨rfl, fun i s y e1 e2 => by
    match i with
    | 0 => simp at e1 e2; subst e1; subst e2; exact a1G ao
    | 1 => simp at e1 e2; subst e1; subst e2; exact hcl
    | i + 2 => simp at e1⟩
   have hD := sO ao 0 0 w f #[pv] (hIF.mono (by
    rintro e w' ⟨y, rfl, hd⟩
    exact ⟨by simpa [dC] using pE hd, hd.below⟩))
   refine hD.mono ?_
   rintro e w' ⟨rfl, hb⟩
   exact ⟨_, rfl, (fun h => (by cases h)), ⟨fP _ hb, [], ⟨by simp, [], [], LayL.nil V, .inl ⟨⟨ao, rfl⟩, rfl, rfl⟩⟩, hnd, (fun b hb => .inl hb), (fun _ => rfl)⟩⟩
  ·rw [List.length_map] at e3 el
   have hlay := a6P (w := w) (ty := 65) hu eL (by simpa using e3) e4 eV
   have hcapl : (l.map aT).length = l.length := by simp
   rw [hcapl] at hlay
   have hIF := hI.calls (nZ V b ys) w [.slice (some ⟨b, 0, none⟩) l.length cap, .func (.func f) #[] #[pv]] (zQ hm hR) ⟨rfl, fun i s y e1 e2 => by
    match i with
    | 0 => simp at e1 e2; subst e1; subst e2; exact hlay
    | 1 => simp at e1 e2; subst e1; subst e2; exact hcl.mono (GLe.refl _) (xC eV _)
    | i + 2 => simp at e1⟩
   rw [hcapl]
   rcases Nat.eq_zero_or_pos l.length with h0 | h0
   ·have hnil : l = [] := List.eq_nil_of_length_eq_zero h0
    subst hnil
    have hD := sO (some ⟨b, 0, none⟩) 0 cap w f #[pv] (hIF.mono (by
     rintro e w' ⟨y, rfl, hd⟩
     exact ⟨by simpa [dC] using pE hd, hd.below⟩))
    refine hD.mono ?_
    rintro e w' ⟨rfl, hb⟩
    have hG := a2M (rows := []) (ys := []) (Ss := []) (G := []) (V := V) (by simp) (LayL.nil V) ((hR.behind hb).pre (List.nil_prefix)) (by simp) e4 eV
    exact ⟨_, rfl, (fun h => (by cases h)), ⟨fP _ hb, _, by simpa using hG, by simp, (fun b hb => .inl (by simp at hb; simp [hb])), (fun h => (by cases h))⟩⟩
   ·have hg := hf l[0] (List.getElem_mem h0)
    have hxl := xR 4 p l ys
    have hxu := zS 4 p l ys el
    have hxf := uT 4 p l ys el
    obtain ⟨hs1, hs2⟩ := xU 4 p l ys
    have hxg := xS 4 p l ys
    have hx1 : ∀ x ∈ fJ 4 p ys l, ∀ v ∈ x.1, v.oneCell' = true := fun x hx v hv => by
     refine eL.oneCell v ?_
     rw [← hxf]
     exact List.mem_flatten.2 ⟨x.1, List.mem_map.2 ⟨x, hx, rfl⟩, hv⟩
    have hW := a0P b cap (fJ 4 p ys l) w f #[pv] (by rw [hxf]; exact hR) (by rw [hxl]; exact e3) (by simp only [maxLen] at e4; omega) hxu hx1 (dC p l 0) (by
        rcases idxP_spec p l 0 with h | ⟨k0, e1, e2, e5, e6⟩
        ·refine .inl ⟨h.1, fun x hx => ?_⟩
         obtain ⟨j, hj, rfl⟩ := List.mem_iff_getElem.1 hx
         rw [hxg j (by rw [hxl] at hj; exact hj) hj]
         exact h.2 _ (List.getElem_mem _)
        ·refine .inr ⟨k0, by rw [e1]; simp, by rw [hxl]; exact e2, ?_, fun j hj hjk => ?_⟩
         ·rw [hxg k0 e2]; exact e5
         ·rw [hxg j (by rw [hxl] at hj; exact hj) hj]; exact e6 j _ hjk) hg.enters (by
        rw [hxl]
        refine hIF.mono ?_
        rintro e w' ⟨y, rfl, hd⟩
        exact ⟨pE hd, hd.below⟩) (fun W F x hx hRW => by
        obtain ⟨j, hj, rfl⟩ := List.mem_iff_getElem.1 hx
        have hjl : j < l.length := by rw [hxl] at hj; exact hj
        rw [hxg j hjl hj]
        have hch := eL.chunk he j hjl
        refine ((hf l[j] (List.getElem_mem hjl)).calls V W [.agg ((ys.drop (j * 4)).take 4).toArray, pv] (hRW.mod hm eV) ⟨rfl, fun i s y e1 e2 => ?_⟩).mono ?_
        ·match i with
         | 0 => simp at e1 e2; subst e1; subst e2; exact ⟨_, rfl, a8i hch⟩
         | 1 => simp at e1 e2; subst e1; subst e2; exact hq
         | i + 2 => simp at e1
        ·rintro e w' ⟨y, rfl, hd⟩
         exact ⟨a3t hd, hd.below⟩)
    rw [hxl] at hW
    refine hW.mono ?_
    rintro e w' ⟨rfl, G, hG⟩
    rw [hs1] at hG
    rw [hs2]
    have hsel := eL.sel aT p he
    have hup := a2M (V := V) (fun r hr => by obtain ⟨x, _, rfl⟩ := List.mem_map.1 hr; exact he x) hsel hG (by rw [List.length_map]; exact Nat.le_trans (List.length_filter_le _ _) e3) e4 eV
    rw [List.length_map] at hup
    have hsub := a1R 4 p l Ss
    have hfs : (a0Q 4 p Ss l).flatten.Sublist Ss.flatten := a1S hsub
    refine ⟨_, rfl, (fun h => (by cases h)), ⟨hG.grown, _, hup, ?_, (fun n hn => .inl ?_), (fun h => (by cases h))⟩⟩
    ·exact hnd.sublist (hfs.cons_cons b)
    ·exact (hfs.cons_cons b).subset hn
def isName (s : ByteArray) (y : TAttr) : Bool := decide (y.fName = s)
def dP (s : ByteArray) (y : TAttr) : Bool := !(jI y.fName s || decide (y.fName = s))
def eP (s : ByteArray) (l : List TAttr) : List TAttr := l.filter fun y => !isName s y
def yN (s : ByteArray) (v : TValue) (l : List TAttr) : List TAttr := if v.fKind = 0 then eP s l else fA (bS (dP s) (eP s l)) ⟨s, v⟩ (eP s l)
def setF (f : TFile) (s : ByteArray) (v : TValue) : TFile := { f with fAttrs := yN s v f.fAttrs }
theorem xO (s : ByteArray) (l : List TAttr) : (eP s l).length ≤ l.length := List.length_filter_le _ _
theorem oG (f : TFile) (h : f.fAttrs.length ≤ 4200000) : FnC Try.prog 42 [cK f] (a3o f) := by
 refine ent Try.func42 rfl Try.call42 rfl (fun C => ?_); simp only [go_sem, st0, Try.ntmps42]
 refine kY (sI f.fAttrs (by omega)) ?_
 exact aA ⟨⟨_, rfl, by simp only [go_sem]⟩, trivial⟩
theorem a5L (s : ByteArray) (y : TAttr) : FnC Try.prog 73 [a1D y, .o (.q [sv s])] (ob (isName s y)) := by
 refine ent Try.func73 rfl Try.call73 rfl (fun C => ?_); simp only [go_sem, st0, Try.ntmps73]
 refine aP ?_
 exact aA ⟨⟨_, rfl, by simp only [go_sem, isName]⟩, trivial⟩
theorem a5M (s : ByteArray) (y : TAttr) : FnC Try.prog 74 [a1D y, .o (.q [sv s])] (ob (dP s y)) := by
 refine ent Try.func74 rfl Try.call74 rfl (fun C => ?_); simp only [go_sem, st0, Try.ntmps74]
 refine aP ?_
 exact aA ⟨⟨_, rfl, by simp only [go_sem, dP]⟩, trivial⟩
theorem sM (s : ByteArray) (l : List TAttr) (h : l.length ≤ 8388608) : FnI Try.prog 72 65 4 (l.map aT) [.o (.f 73 [[sv s]])] false ((eP s l).map aT) :=
 sN _ [sv s] (isName s) l (fun y _ => a5L s y) h
theorem xP (f : TFile) (s : ByteArray) (v : TValue) (h : f.fAttrs.length ≤ 4200000) : FnC Try.prog 43 [cK f, os s, mI v] (a3o (setF f s v)) := by
 have hd := xO s f.fAttrs
 refine ent Try.func43 rfl Try.call43 rfl (fun C => ?_); simp only [go_sem, st0, Try.ntmps43]
 by_cases hv : v.fKind = 0
 ·have e : yN s v f.fAttrs = eP s f.fAttrs := if_pos hv
  have qH := aI @hv @decide_true; repeat' (with_reducible first | refine nY ?_ | (refine mX ?_; try simp only [go_sem, qH]) | refine kD ?_ | refine rD ?_ | refine cP (oG f h) ?_ | refine vI (sM s f.fAttrs (by omega)) ?_ | refine vJ (sM s f.fAttrs (by omega)) ?_ | refine aO ?_ | fail)
  exact aA ⟨⟨_, rfl, by simp only [go_sem, setF, e, eP]⟩, trivial⟩
 have e : yN s v f.fAttrs = fA (bS (dP s) (eP s f.fAttrs)) ⟨s, v⟩ (eP s f.fAttrs) := if_neg hv
 have hx := idxP_fst (dP s) (eP s f.fAttrs) 0
 have hle := xJ (dP s) (eP s f.fAttrs)
 have qH := aI @hv @decide_false; repeat' (with_reducible first | refine nY ?_ | (refine mX ?_; try simp only [go_sem, qH]) | refine kD ?_ | refine rD ?_ | refine cP (oG f h) ?_ | refine vI (sM s f.fAttrs (by omega)) ?_ | refine vJ (sM s f.fAttrs (by omega)) ?_ | refine vL (gW _ [sv s] (dP s) (eP s f.fAttrs) (fun y _ => a5M s y) (by omega)) ?_ | refine aO ?_ | fail)
 refine cnd (b := decide (dC (dP s) (eP s f.fAttrs) 0 < 0)) rfl (fun h5 => ?_) (fun h5 => ?_)
 ·have h5' := of_decide_eq_true h5
  have e5 : bS (dP s) (eP s f.fAttrs) = (eP s f.fAttrs).length := by
   rcases hx with hx | hx
   ·exact hx.2.2
   ·omega
  have qH := trivial; repeat' (with_reducible first | refine nY ?_ | (refine mX ?_; try simp only [go_sem]) | refine kD ?_ | refine rD ?_ | refine vK (iC ((eP s f.fAttrs).map aT) (aT ⟨s, v⟩) (eP s f.fAttrs).length (by simp) (by simp; omega)) ?_ | refine aO ?_ | fail)
  exact aA ⟨⟨_, rfl, by simp only [go_sem, setF, e, e5, fA, aT, List.map_append, List.map_cons, pF, pG]⟩, trivial⟩
 ·have h5' := of_decide_eq_false h5
  have e5 : dC (dP s) (eP s f.fAttrs) 0 = ((bS (dP s) (eP s f.fAttrs) : Nat) : Int) := by
   rcases hx with hx | hx
   ·omega
   ·simpa using hx.1
  have qH := @e5; repeat' (with_reducible first | refine nY ?_ | (refine mX ?_; try simp only [go_sem, qH]) | refine kD ?_ | refine rD ?_ | refine vK (iC ((eP s f.fAttrs).map aT) (aT ⟨s, v⟩) (bS (dP s) (eP s f.fAttrs)) (by simpa using hle) (by simp; omega)) ?_ | refine aO ?_ | fail)
  exact aA ⟨⟨_, rfl, by simp only [go_sem, setF, e, fA, aT, List.map_append, List.map_cons, pF, pG]⟩, trivial⟩
theorem a4j (s : ByteArray) (l : List TAttr) (k : Nat) (h : k < l.length) : eP s (l.take (k + 1)) = eP s (l.take k) ++ (if isName s l[k] then [] else [l[k]]) := by
 simp only [eP, List.take_succ_eq_append_getElem h, List.filter_append, List.filter_cons, List.filter_nil]
 cases isName s l[k] <;> rfl
theorem xQ (f : TFile) (s : ByteArray) (v : TValue) (h : f.fAttrs.length ≤ 4200000) : FnC Try.prog 16 [cK f, os s, mI v] (a3o (setF f s v)) := by
 have hd := xO s f.fAttrs
 refine ent Try.func16 rfl Try.call16 rfl (fun C => ?_); simp only [go_sem, st0, Try.ntmps16]
 refine aP ?_
 refine dD (α := Nat) (fun k => [(7, .o (.s 3)), (8, oi k), (11, .o .u)]) (fun k => [(3, .row 65 4 ((eP s (f.fAttrs.take k)).map aT) true)]) (fun k => k ≤ f.fAttrs.length) (fun k => f.fAttrs.length - k) 0 (fun _ => ?_) ?_ ?_ (fun k hk => ?_)
 ·simp only [go_sem]
 ·simp only [go_sem]; simp [eP]
 ·simp
 ·simp only [go_sem]
  refine aP ?_
  refine cnd rfl (fun h1 => ?_) (fun h1 => ?_)
  ·simp only [decide_eq_true_eq, Int.ofNat_lt] at h1
   have ht := a4j s f.fAttrs k h1
   have hlen : (eP s (f.fAttrs.take k)).length ≤ 4200000 := by have := xO s (f.fAttrs.take k); simp at this; omega
   have q0 := @h1; refine jQ ?_
   refine cnd (b := !(isName s f.fAttrs[k])) rfl (fun h2 => ?_) (fun h2 => ?_)
   ·have h2' : isName s f.fAttrs[k] = false := by simpa using h2
    rw [h2'] at ht
    have hl1 : (eP s (f.fAttrs.take k)).length + 1 ≤ 140737488355328 := by omega
    have hl2 : ((eP s (f.fAttrs.take k)).length + 1) * 48 ≤ 140737488355328 := by omega
    have q0 := @h1; refine jQ ?_
    refine aR (k + 1) ?_ ?_ ?_
    ·simp only [go_sem, ht, List.map_append]; simp [aT]
    ·omega
    ·omega
   ·have h2' : isName s f.fAttrs[k] = true := by simpa using h2
    rw [h2'] at ht
    have q0 := @h1; refine jQ ?_
    refine aR (k + 1) ?_ ?_ ?_
    ·simp only [go_sem, ht, List.map_append]; simp
    ·omega
    ·omega
  ·simp only [decide_eq_false_iff_not] at h1
   have e : k = f.fAttrs.length := by omega
   subst e
   by_cases hv : v.fKind = 0
   ·have e : yN s v f.fAttrs = eP s f.fAttrs := if_pos hv
    have q0 := @hv; have q1 := @decide_true; refine jR ?_
    exact aA ⟨⟨_, rfl, by simp only [go_sem, setF, e, List.take_length]⟩, trivial⟩
   have e : yN s v f.fAttrs = fA (bS (dP s) (eP s f.fAttrs)) ⟨s, v⟩ (eP s f.fAttrs) := if_neg hv
   have htl : f.fAttrs.take f.fAttrs.length = f.fAttrs := List.take_length
   have q0 := @hv; have q1 := @decide_false; have q2 := @htl; refine a0B ?_
   generalize hdl : eP s f.fAttrs = l at *
   refine WP.sees (Sees.frz 3 rfl) ?_
   simp only [go_sem]
   refine dD (α := Nat) (fun n => [(9, oi n)]) (fun _ => []) (fun n => n ≤ l.length ∧ bS (dP s) l = n + bS (dP s) (l.drop n)) (fun n => l.length - n) 0 (fun _ => ?_) ?_ ?_ (fun n hn => ?_)
   ·simp only [go_sem]
   ·simp only [go_sem]; simp
   ·simp
   ·obtain ⟨hn, hf⟩ := hn
    simp only [go_sem]
    by_cases h5 : n < l.length
    ·have hfx := a5F (dP s) l n h5 hf
     have h5' : ((n : Int) < (l.length : Int)) = True := by simp [h5]
     have q0 := @h5; have q1 := @h5'; have q2 := @decide_true; refine a0B ?_
     refine cnd (b := !(dP s l[n])) (by simp only [dP, Bool.not_not]; try rfl) (fun h6 => ?_) (fun h6 => ?_)
     ·have h6 : dP s l[n] = false := by simpa using h6
      rw [if_neg (by simp [h6])] at hfx
      refine aP ?_
      refine aR (n + 1) ?_ ?_ ?_
      ·simp only [go_sem]; simp
      ·exact ⟨by omega, hfx⟩
      ·omega
     ·have h6 : dP s l[n] = true := by simpa using h6
      rw [if_pos h6] at hfx
      have qH := aI @h5 (aI @pF (aI @pG (aI @a7f (aI @a7g @a7J)))); repeat' (with_reducible first | refine nY ?_ | (refine mX ?_; try simp only [go_sem, qH]) | refine kD ?_ | (apply rE [0,4,8,9] [] [1,2,3,5,6,7] [1,2,3,5,6,7] ((.c 0 [] [1,2,3,5,6,7] (.c 4 [] [5,6,7] (.c 8 [] [] (.c 9 [10] [10] .n .n) .n) (.c 8 [] [1,2,3] (.c 4 [] [] (.c 9 [10] [10] .n .n) .n) .n)) (.c 8 [] [1,2,3] (.c 0 [] [1,2,3] (.c 4 [] [] (.c 9 [10] [10] .n .n) .n) .n) .n))) (by simp only [go_sem]; rfl) (by simp only [go_sem]; rfl) (by simp only [go_sem]; rfl) (by decide +kernel); (focus simp only [go_sem]; done)) | exact fB | refine dM (uX ?_) ?_ | refine dN (aX ?_) ?_ | refine dO (aX ?_) ?_ | exact dL | (refine bI [(4, 5)] (by simp only [go_sem]; rfl) ?_; exact rfl) | exact oH | exact uB | refine rD ?_ | refine aO ?_ | fail)
      exact aA ⟨⟨_, rfl, by simp only [go_sem, setF, e, hfx, fA, aT, List.map_append, List.map_cons, List.append_assoc, List.cons_append, List.nil_append, List.take_length]⟩, trivial⟩
    ·have e' : n = l.length := by omega
     have hfx : bS (dP s) l = n := by rw [hf, e', List.drop_length]; rfl
     have h5' : ((n : Int) < (l.length : Int)) = False := by simp [h5]
     have qH := aI @h5 (aI @h5' (aI @decide_false (aI @pF (aI @pG (aI @a7f (aI @a7g @a7J)))))); repeat' (with_reducible first | refine nY ?_ | (refine mX ?_; try simp only [go_sem, qH]) | refine kD ?_ | (apply rE [0,4,8,9] [] [1,2,3,5,6,7] [1,2,3,5,6,7] ((.c 0 [] [1,2,3,5,6,7] (.c 4 [] [5,6,7] (.c 8 [] [] (.c 9 [10] [10] .n .n) .n) (.c 8 [] [1,2,3] (.c 4 [] [] (.c 9 [10] [10] .n .n) .n) .n)) (.c 8 [] [1,2,3] (.c 0 [] [1,2,3] (.c 4 [] [] (.c 9 [10] [10] .n .n) .n) .n) .n))) (by simp only [go_sem]; rfl) (by simp only [go_sem]; rfl) (by simp only [go_sem]; rfl) (by decide +kernel); (focus simp only [go_sem]; done)) | exact fB | refine dM (uX ?_) ?_ | refine dN (aX ?_) ?_ | refine dO (aX ?_) ?_ | exact dL | (refine bI [(4, 5)] (by simp only [go_sem]; rfl) ?_; exact rfl) | exact oH | exact uB | refine rD ?_ | refine aO ?_ | fail)
     exact aA ⟨⟨_, rfl, by simp only [go_sem, setF, e, hfx, fA, aT, List.map_append, List.map_cons, List.append_assoc, List.cons_append, List.nil_append, e', List.take_length, List.drop_length]⟩, trivial⟩
def iJ (l : List TAttr) (e : List TAttr) : List TAttr := e.foldl (fun l a => yN a.fName a.fValue l) l
def applyF (f : TFile) (e : TEdit) : TFile := { f with fAttrs := iJ f.fAttrs e.fSet }
theorem a1P (l e : List TAttr) (k : Nat) (h : k < e.length) : iJ l (e.take (k + 1)) = yN e[k].fName e[k].fValue (iJ l (e.take k)) := by
 simp only [iJ, List.take_succ_eq_append_getElem h, List.foldl_append, List.foldl_cons, List.foldl_nil]
theorem a5K (s : ByteArray) : ∀ l : List TAttr, aW (eP s l) ≤ aW l
 | [] => by simp [eP]
 | x :: l => by
  have := a5K s l
  simp only [eP, aW] at this ⊢
  simp only [List.filter_cons]
  split <;> simp only [List.length_cons, bV] <;> omega
theorem a8h (s : ByteArray) (v : TValue) (l : List TAttr) : aW (yN s v l) ≤ aW l + (1 + iG ⟨s, v⟩) := by
 have := a5K s l
 unfold yN
 split
 ·omega
 ·rw [xE]; omega
theorem a1Q (l : List TAttr) : ∀ (e : List TAttr) (k : Nat), aW (iJ l (e.take k)) ≤ aW l + aW e := by
 have key : ∀ (e l : List TAttr), aW (iJ l e) ≤ aW l + aW e := by
  intro e
  induction e with
  | nil => intro l; simp only [iJ, List.foldl_nil]; omega
  | cons x e ih =>
   intro l
   have h1 := ih (yN x.fName x.fValue l)
   have h2 := a8h x.fName x.fValue l
   have h4 : iG ⟨x.fName, x.fValue⟩ = iG x := rfl
   have h3 : aW (x :: e) = 1 + iG x + aW e := by simp only [aW, bV, List.length_cons]; omega
   simp only [iJ, List.foldl_cons] at h1 ⊢
   omega
 intro e k
 have h1 := key (e.take k) l
 have h2 : aW (e.take k) ≤ aW e := by
  have := a3m iG e k
  simp only [aW, List.length_take]; omega
 omega
theorem qW (l : List TAttr) : l.length ≤ aW l := by unfold aW; omega
theorem fT (f : TFile) (s : ByteArray) (v : TValue) (h : f.fAttrs.length ≤ 4200000) : FnC Try.prog 16 [cK f, os s, mI v] (cK (setF f s v)) := (xQ f s v h).pu (by simp only [go_sem, and_self])
theorem tY (f : TFile) (e : TEdit) (h : bK f + eZ e ≤ 4200000) : FnC Try.prog 18 [cK f, xA e] (a3o (applyF f e)) := by
 unfold bK eZ at h
 have hl := qW f.fAttrs
 have hle := qW e.fSet
 have hw := a1Q f.fAttrs e.fSet
 refine ent Try.func18 rfl Try.call18 rfl (fun C => ?_); simp only [go_sem, st0, Try.ntmps18]
 refine kY (oG f (by omega)) ?_
 refine dD (α := Nat) (fun k => [(9, .o .u), (13, oi k)]) (fun k => [(3, .row 65 4 ((iJ f.fAttrs (e.fSet.take k)).map aT) true)]) (fun k => k ≤ e.fSet.length) (fun k => e.fSet.length - k) 0 (fun _ => ?_) ?_ ?_ (fun k hk => ?_)
 ·simp only [go_sem]
 ·simp only [go_sem]; simp [iJ]
 ·simp
 ·simp only [go_sem]
  refine aP ?_
  refine cnd rfl (fun h1 => ?_) (fun h1 => ?_)
  ·simp only [decide_eq_true_eq, Int.ofNat_lt] at h1
   have ht := a1P f.fAttrs e.fSet k h1
   have hwk := qW (iJ f.fAttrs (e.fSet.take k))
   have hwk2 := hw k
   have q0 := @h1; refine nR (xP ⟨f.fID, f.fOwner, f.fShared, f.fLink, iJ f.fAttrs (e.fSet.take k)⟩ e.fSet[k].fName e.fSet[k].fValue (by simp only; omega)) ?_
   refine a6c [(3, 6)] (k + 1) (by simp only [go_sem]; rfl) ?_ ?_ ?_
   ·simp only [go_sem]; simp [ht, setF]
   ·omega
   ·omega
  ·simp only [decide_eq_false_iff_not] at h1
   have e : k = e.fSet.length := by omega
   subst e
   refine aP ?_
   exact aA ⟨⟨_, rfl, by simp only [go_sem, List.take_length, applyF]⟩, trivial⟩
theorem eO (f : TFile) (e : TEdit) (h : bK f + eZ e ≤ 4200000) : FnC Try.prog 18 [cK f, xA e] (cK (applyF f e)) := (tY f e h).pu (by simp only [go_sem, and_self])
theorem a2H (l : List Int) (hl : l.length ≤ 9223372036854775807) : FnC Try.prog 8 [.o (.d (.sl (l.map wT)))] (ob (decide ((1048576 : Int) < (l.length : Int)))) := by
 refine ent Try.func8 rfl Try.call8 rfl (fun C => ?_); simp only [go_sem, st0, Try.ntmps8]
 refine aP ?_
 exact aA ⟨⟨_, rfl, by simp only [go_sem]⟩, trivial⟩
theorem fQ (n : Int) : FnC Try.prog 13 [oi n] (mI ⟨1, n, ⟨#[]⟩⟩) := by
 refine ent Try.func13 rfl Try.call13 rfl (fun C => ?_); simp only [go_sem, st0, Try.ntmps13]
 refine aP ?_
 exact aA ⟨⟨_, rfl, by simp only [go_sem]⟩, trivial⟩
theorem a6F (s : ByteArray) : FnC Try.prog 17 [os s] (mI ⟨2, 0, s⟩) := by
 refine ent Try.func17 rfl Try.call17 rfl (fun C => ?_); simp only [go_sem, st0, Try.ntmps17]
 refine aP ?_
 exact aA ⟨⟨_, rfl, by simp only [go_sem]⟩, trivial⟩
def amQ (x y : Int) : List TNode := [⟨3, 0, 0, ⟨#[97]⟩, ⟨1, x, ⟨#[]⟩⟩⟩, ⟨3, 0, 0, ⟨#[98]⟩, ⟨1, y, ⟨#[]⟩⟩⟩, ⟨7, 0, 1, ⟨#[]⟩, ⟨0, 0, ⟨#[]⟩⟩⟩]
def amL (x : Int) : List TNode := [⟨4, 0, 0, ⟨#[97]⟩, ⟨1, x, ⟨#[]⟩⟩⟩]
def amF : TFile := ⟨1, 0, false, 0, []⟩
theorem a5h {x y : Int} (hx : 0 ≤ x ∧ x < 3) (hy : 0 ≤ y ∧ y < 3) : (editQ (amQ x y) amF [] true).fOK = false ∧ (editQ (amQ x y) amF [] false).fOK = true ∧ (editQ (amQ x y) (setF amF ⟨#[97]⟩ ⟨1, x, ⟨#[]⟩⟩) [] true).fOK = true := by
 have h1 : x = 0 ∨ x = 1 ∨ x = 2 := by omega
 have h2 : y = 0 ∨ y = 1 ∨ y = 2 := by omega
 rcases h1 with rfl | rfl | rfl <;> rcases h2 with rfl | rfl | rfl <;> decide +kernel
theorem a5i {x : Int} (hx : 1 ≤ x ∧ x < 6) : (editQ (amL x) amF [] true).fOK = false := by
 have h1 : x = 1 ∨ x = 2 ∨ x = 3 ∨ x = 4 ∨ x = 5 := by omega
 rcases h1 with rfl | rfl | rfl | rfl | rfl <;> decide +kernel
theorem pM (l : List Int) (hf : wfU l) : FnC Try.prog 4 [.o (.d (.sl (l.map wT)))] (ob true) := by
 refine ent Try.func4 rfl Try.call4 rfl (fun C => ?_); simp only [go_sem, st0, Try.ntmps4]
 have hbig := a2H l hf.1
 by_cases g : (1048576 : Int) < (l.length : Int)
 ·have g' : decide ((1048576 : Int) < (l.length : Int)) = true := by simp [g]
  have q0 := @g'; refine nR hbig ?_
  exact aA ⟨⟨_, rfl, by simp only [go_sem]⟩, trivial⟩
 have g' : decide ((1048576 : Int) < (l.length : Int)) = false := by simp [g]
 have q0 := @g'; refine nR hbig ?_
 refine a5m (places_ok l (by omega) hf.2) rfl rfl ?_
 rintro p ⟨hp, hpx⟩
 simp only [go_sem]
 have p0 : 0 < p.length := by omega
 have p1 : 1 < p.length := by omega
 have p2 : 2 < p.length := by omega
 have r0 := hpx p[0] (List.getElem_mem p0)
 have r1 := hpx p[1] (List.getElem_mem p1)
 have r2 := hpx p[2] (List.getElem_mem p2)
 have x0 : (0 : Int) ≤ p[0].tmod 3 ∧ p[0].tmod 3 < 3 := ⟨Int.tmod_nonneg 3 r0.1, Int.tmod_lt_of_pos _ (by omega)⟩
 have x1 : (0 : Int) ≤ p[1].tmod 3 ∧ p[1].tmod 3 < 3 := ⟨Int.tmod_nonneg 3 r1.1, Int.tmod_lt_of_pos _ (by omega)⟩
 have x2 : (0 : Int) ≤ p[2].tmod 5 ∧ p[2].tmod 5 < 5 := ⟨Int.tmod_nonneg 5 r2.1, Int.tmod_lt_of_pos _ (by omega)⟩
 have qH := aI @p0 (aI @p1 @p2); repeat' (with_reducible first | refine nY ?_ | (refine mX ?_; try simp only [go_sem, qH]) | refine kD ?_ | (apply rE [4,10,13] [] [0,1,2,3,6,7,8,9,12] [0,1,2,3,6,7,8,9,12] ((.c 4 [5] [5,6,7,8,9,12] (.c 10 [11] [5,11,12] (.c 13 [14] [14] .n .n) .n) .n)) (by simp only [go_sem]; rfl) (by simp only [go_sem]; rfl) (by simp only [go_sem]; rfl) (by decide +kernel); (focus simp only [go_sem]; done)) | exact fB | refine dM (uX ?_) ?_ | refine dN (aX ?_) ?_ | refine dO (aX ?_) ?_ | exact dL | exact oH | exact uB | refine cP (fQ (p[0].tmod 3)) ?_ | refine cP (fQ (p[1].tmod 3)) ?_ | refine cP (fQ ((1 : Int) + p[2].tmod 5)) ?_ | refine aO ?_ | fail)
 refine WP.sees (Sees.frz 1 rfl) ?_
 simp only [go_sem]
 refine WP.sees (Sees.frz 2 rfl) ?_
 simp only [go_sem]
 have hq := a5h x0 x1
 have hl := a5i (x := (1 : Int) + p[2].tmod 5) (by omega)
 have n1 : ∀ x y : Int, dB (amQ x y) = 5 := fun x y => by simp [dB, amQ, bV, nS, fI]; try decide
 have n2 : ∀ x : Int, dB (amL x) = 2 := fun x => by simp [dB, amL, bV, nS, fI]; try decide
 have n3 : bK amF = 0 := rfl
 have n4 : bR [] = 0 := rfl
 have hq := a5h x0 x1
 have hl := a5i (x := (1 : Int) + p[2].tmod 5) (by omega)
 obtain ⟨f1, f3, f4⟩ := hq
 have c1 := eG (amQ (p[0].tmod 3) (p[1].tmod 3)) amF [] (by rw [n1]; omega) (by rw [n3]; omega) (by rw [n4]; omega)
 have c2 := eG (amL ((1 : Int) + p[2].tmod 5)) amF [] (by rw [n2]; omega) (by rw [n3]; omega) (by rw [n4]; omega)
 have c3 := gK (amQ (p[0].tmod 3) (p[1].tmod 3)) amF [] (by rw [n1]; omega) (by rw [n3]; omega) (by rw [n4]; omega)
 have c4 := fT amF ⟨#[97]⟩ ⟨1, p[0].tmod 3, ⟨#[]⟩⟩ (by decide)
 have n5 : bK (setF amF ⟨#[97]⟩ ⟨1, p[0].tmod 3, ⟨#[]⟩⟩) ≤ 1048576 := by
  have e : setF amF ⟨#[97]⟩ ⟨1, p[0].tmod 3, ⟨#[]⟩⟩ = ⟨1, 0, false, 0, [⟨⟨#[97]⟩, ⟨1, p[0].tmod 3, ⟨#[]⟩⟩⟩]⟩ := rfl
  rw [e]; simp [bK, aW, bV, iG, fI]; decide
 have c5 := eG (amQ (p[0].tmod 3) (p[1].tmod 3)) (setF amF ⟨#[97]⟩ ⟨1, p[0].tmod 3, ⟨#[]⟩⟩) [] (by rw [n1]; omega) n5 (by rw [n4]; omega)
 generalize setF amF ⟨#[97]⟩ ⟨1, p[0].tmod 3, ⟨#[]⟩⟩ = F1 at *
 generalize editQ (amQ (p[0].tmod 3) (p[1].tmod 3)) F1 [] true = E5 at *
 generalize editQ (amQ (p[0].tmod 3) (p[1].tmod 3)) amF [] true = E1 at *
 generalize editQ (amQ (p[0].tmod 3) (p[1].tmod 3)) amF [] false = E3 at *
 generalize editQ (amL ((1 : Int) + p[2].tmod 5)) amF [] true = E2 at *
 simp only [go_sem, amQ, amL, amF] at c1 c2 c3 c4 c5
 have q0 := @p0; have q1 := @f1; have q2 := @f3; have q3 := @f4; have q4 := @hl; refine a9J c1 c2 c3 c5 (fQ (p[0].tmod 3)) c4 ?_
 exact aA ⟨⟨_, rfl, by simp only [go_sem]⟩, trivial⟩
end Go.Proofs.Ytjkbipgmckeckaa
end
