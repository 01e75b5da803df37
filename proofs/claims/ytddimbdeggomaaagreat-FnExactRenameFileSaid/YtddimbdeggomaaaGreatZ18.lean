/- Joined texts. -/
import Derived.Test.YtddimbdeggomaaaGreatZ17
import Derived.Test.YtddimbdeggomaaaGreatZ07
import Derived.Shelf.RegionOpenPlain
import Derived.WalkKit
import Derived.Deep.LoopGhost
import Derived.Deep.Draws
import Derived.Lib.Walk
import Derived.Lib.SliceRun
import Derived.Shelf.SlicesE.Kit
import Derived.Shelf.SlicesE.DeleteFunc
import Derived.Test.YtddimbdeggomaaaGreatZ11
import Derived.Test.YtddimbdeggomaaaGreatZ10
set_option linter.all false
section
namespace Go.Proofs.YtddimbdeggomaaaGreat
open Go Go.Sx Go.RowKit Go.Proofs Go.Lib
set_option maxHeartbeats 4000000 in
set_option maxRecDepth 1000000 in
theorem uc (b cap : Nat) (xs : List (List Value × Bool)) (w : World) (g : Nat) (lb : Array Value) (hR : RowAt w w b 181 (cap * 4) (xs.map (·.1)).flatten) (hn : xs.length ≤ cap) (hbig : cap ≤ 9223372036854775807) (hun : ∀ x ∈ xs, x.1.length = 4) (h1c : ∀ x ∈ xs, ∀ v ∈ x.1, v.oneCell' = true) (kk : Int)
    (hk : (kk = -1 ∧ ∀ x ∈ xs, x.2 = false) ∨ ∃ k0 : Nat, kk = k0 ∧ ∃ h : k0 < xs.length, xs[k0].2 = true ∧ ∀ j (hj : j < xs.length), j < k0 → xs[j].2 = false)
    (eg : ∀ args w, (callFunc g args).run Tryz.prog w = .ok (.enter g args) w)
    (hIF : Calls Tryz.prog 209 #[.slice (some ⟨b, 0, none⟩) xs.length cap, .func (.func g) #[] lb] w fun e w' => e = .returned (.int .i64 kk) ∧ Below w.heap.size w w')
    (hp : ∀ W F x, x ∈ xs → RowAt w W b 181 (cap * 4) F → Calls Tryz.prog g (#[.agg x.1.toArray] ++ lb) W fun e w' => e = .returned (.bool x.2) ∧ Below W.heap.size W w') :
    Calls Tryz.prog 207 #[.slice (some ⟨b, 0, none⟩) xs.length cap, .func (.func g) #[] lb] w fun e w' =>
     e = .returned (.slice (some ⟨b, 0, none⟩) (xs.filter fun x => !x.2).length cap) ∧ ∃ G, RowAt w w' b 181 (cap * 4) (((xs.filter fun x => !x.2).map (·.1)).flatten ++ G) := by
 have e6 := Tryz.call209
 rcases hk with ⟨rfl, hall⟩ | ⟨k0, rfl, hk0, ht, hall⟩
 ·have hkeep : (xs.filter fun x => !x.2) = xs := List.filter_eq_self.2 fun x hx => by rw [hall x hx]; rfl
  rw [hkeep]
  have HR : Aside (RowAt w w b 181 (cap * 4) (xs.map (·.1)).flatten) := hR
  clear hR hp h1c hun
  go_enter Tryz.func207, Tryz.ntmps207
  go_wp2_with fail
  refine hIF.mono ?_
  rintro e w' ⟨rfl, hb⟩
  go_wp2
  go_ret
  exact ⟨rfl, [], by simpa using HR.out.behind hb⟩
 ·have hne1 : ((k0 : Int) == -1) = false := beq_eq_false_iff_ne.2 (by omega)
  have HS : Aside (DelK 4 xs k0 (k0 + 1) (xs.map (·.1)).flatten) := DelK.start hun hk0 hall ht
  have HR : Aside (RowAt w w b 181 (cap * 4) (xs.map (·.1)).flatten) := hR
  have HC : Aside _ := hp
  have HO : Aside _ := h1c
  clear hR hp ht hall h1c hun
  go_enter Tryz.func207, Tryz.ntmps207
  go_wp2_with fail
  refine hIF.mono ?_
  rintro e w' ⟨rfl, hb⟩
  go_wp2
  go_loopg [5, 6, 7] xs.length (fun gg s5 s6 _ wr => ∃ (i j : Nat) (F : List Value), s5 = .int .i64 i ∧ s6 = .int .i64 j ∧ j ≤ xs.length ∧ xs.length - j ≤ gg ∧ Aside (RowAt w wr b 181 (cap * 4) F) ∧ Aside (DelK 4 xs i j F))
  case atStart => exact ⟨k0, k0 + 1, _, rfl, by go_num, by omega, by omega, HR.out.behind hb, HS⟩
  case round =>
   obtain ⟨i, j, F, rfl, rfl, hjd, hgg, R2, I2⟩ := hrel
   have hI := I2.out
   have hlF := hI.len
   have hij := hI.ij
   by_cases hlt : j < xs.length
   ·have hltz : (j : Int) < (xs.length : Int) := by omega
    obtain ⟨v0, v1, v2, v3, hu⟩ : ∃ v0 v1 v2 v3, xs[j].1 = [v0, v1, v2, v3] := by
     have := hI.un xs[j] (List.getElem_mem hlt)
     match hq : xs[j].1, this with
     | [v0, v1, v2, v3], _ => exact ⟨v0, v1, v2, v3, rfl⟩
    have c0 : wr.cell? ⟨b, j * 4, none⟩ = some v0 := R2.out.cell (hI.at hlt (t := 0) (by rw [hu]; rfl))
    have c1 : wr.cell? ⟨b, j * 4 + 1, none⟩ = some v1 := R2.out.cell (hI.at hlt (t := 1) (by rw [hu]; rfl))
    have c2 : wr.cell? ⟨b, j * 4 + 2, none⟩ = some v2 := R2.out.cell (hI.at hlt (t := 2) (by rw [hu]; rfl))
    have c3 : wr.cell? ⟨b, j * 4 + 3, none⟩ = some v3 := R2.out.cell (hI.at hlt (t := 3) (by rw [hu]; rfl))
    have o0 : v0.oneCell' = true := HO.out xs[j] (List.getElem_mem hlt) v0 (by rw [hu]; simp)
    have s0 := fun (W : World) (a : Addr) (m : Mode) => run_store Tryz.prog W a v0 m o0
    have o1 : v1.oneCell' = true := HO.out xs[j] (List.getElem_mem hlt) v1 (by rw [hu]; simp)
    have s1 := fun (W : World) (a : Addr) (m : Mode) => run_store Tryz.prog W a v1 m o1
    have o2 : v2.oneCell' = true := HO.out xs[j] (List.getElem_mem hlt) v2 (by rw [hu]; simp)
    have s2 := fun (W : World) (a : Addr) (m : Mode) => run_store Tryz.prog W a v2 m o2
    have o3 : v3.oneCell' = true := HO.out xs[j] (List.getElem_mem hlt) v3 (by rw [hu]; simp)
    have s3 := fun (W : World) (a : Addr) (m : Mode) => run_store Tryz.prog W a v3 m o3
    have C : Aside (xs[j].1 = [v0, v1, v2, v3]) := hu
    have hcall := HC.out (wr.alloc (.cells #[v0, v1, v2, v3] 181)) F xs[j] (List.getElem_mem hlt) (R2.out.behind (fW wr _))
    rw [hu] at hcall
    clear hu hI
    cases hq : xs[j].2 with
    | false =>
     rw [hq] at hcall
     go_wp2_with fail
     refine hcall.mono ?_
     rintro e w'' ⟨rfl, hb'⟩
     have d0 : w''.cell? ⟨wr.heap.size, 0, none⟩ = some v0 := mO hb' rfl
     have d1 : w''.cell? ⟨wr.heap.size, 1, none⟩ = some v1 := mO hb' rfl
     have d2 : w''.cell? ⟨wr.heap.size, 2, none⟩ = some v2 := mO hb' rfl
     have d3 : w''.cell? ⟨wr.heap.size, 3, none⟩ = some v3 := mO hb' rfl
     have R3 := (R2.out.behind (fW wr _)).behind hb'
     have hil : i * 4 + 4 ≤ F.length := by
      have : (i + 1) * 4 ≤ xs.length * 4 := Nat.mul_le_mul_right _ (by omega)
      rw [hlF]; rw [Nat.add_mul] at this; omega
     have e0' := R3.cell (List.getElem?_eq_getElem (show i * 4 < F.length by omega))
     have f0' := R3.frozen (i * 4)
     have e1' := R3.cell (List.getElem?_eq_getElem (show i * 4 + 1 < F.length by omega))
     have f1' := R3.frozen (i * 4 + 1)
     have e2' := R3.cell (List.getElem?_eq_getElem (show i * 4 + 2 < F.length by omega))
     have f2' := R3.frozen (i * 4 + 2)
     have e3' := R3.cell (List.getElem?_eq_getElem (show i * 4 + 3 < F.length by omega))
     have f3' := R3.frozen (i * 4 + 3)
     have A3 : Aside (RowAt w w'' b 181 (cap * 4) F) := R3
     have hbn : ¬ (b = wr.heap.size) := by have := R2.out.lt; omega
     clear R3
     generalize F[i * 4] = old0 at e0'
     generalize F[i * 4 + 1] = old1 at e1'
     generalize F[i * 4 + 2] = old2 at e2'
     generalize F[i * 4 + 3] = old3 at e3'
     go_wp2
     go_roundg (xs.length - (j + 1))
     case measure => omega
     case rel =>
      refine ⟨i + 1, j + 1, F.take (i * 4) ++ xs[j].1 ++ F.drop (i * 4 + xs[j].1.length), by go_num, by go_num, by omega, Nat.le_refl _, (show Aside _ from ?_), (show Aside _ from ?_)⟩
      ·rw [C.out]
       have h := A3.out.set [v0, v1, v2, v3] (s := i * 4) (by omega) (by have := A3.out.le; simp; omega)
       exact h
      ·exact I2.out.keep hlt hq
    | true =>
     rw [hq] at hcall
     go_wp2_with fail
     refine hcall.mono ?_
     rintro e w'' ⟨rfl, hb'⟩
     go_wp2
     go_roundg (xs.length - (j + 1))
     case measure => omega
     case rel => exact ⟨i, j + 1, F, rfl, by go_num, by omega, Nat.le_refl _, (R2.out.behind (fW wr _)).behind hb', I2.out.skip hlt hq⟩
   ·obtain rfl : j = xs.length := by omega
    have hltz : ¬ (xs.length : Int) < (xs.length : Int) := by omega
    have hRN := R2.out.le
    obtain ⟨hlo, hil⟩ := hI.fin
    have hle : i * 4 ≤ xs.length * 4 := Nat.mul_le_mul_right _ (by omega)
    have hsub : (xs.length - i) * 4 = xs.length * 4 - i * 4 := Nat.sub_mul ..
    have hzl := k8 (.agg #[.string ⟨#[]⟩, .int .i64 0, .int .i64 0, .string ⟨#[]⟩] : Value).cells (xs.length - i)
    have hzs : (.agg #[.string ⟨#[]⟩, .int .i64 0, .int .i64 0, .string ⟨#[]⟩] : Value).cells.size = 4 := rfl
    rw [hzs] at hzl
    have hcl : ∀ ty, (Builtin.clear_ #[71] ty #[.slice (some ⟨b, i * 4, none⟩) (xs.length - i) (cap - i)]).run Tryz.prog wr = .ok (.tuple #[]) (wr.setCells b (i * 4) (Builtin.zeroCells (.agg #[.string ⟨#[]⟩, .int .i64 0, .int .i64 0, .string ⟨#[]⟩] : Value).cells (xs.length - i)).toList) :=
     fun ty => wn wr _ _ ty _ Tryz.underlying71 (fun w => Tryz.zeroValue181 w) b (i * 4) _ _ (by omega) (fun t ht => R2.out.there (by rw [hzs] at ht; omega)) (fun t ht => R2.out.frozen _) (rA (by intro v hv; simp [Value.cells] at hv; rcases hv with rfl | rfl | rfl | rfl <;> rfl) _)
    have HE : Aside (∃ G, RowAt w (wr.setCells b (i * 4) (Builtin.zeroCells (.agg #[.string ⟨#[]⟩, .int .i64 0, .int .i64 0, .string ⟨#[]⟩] : Value).cells (xs.length - i)).toList) b 181 (cap * 4) (((xs.filter fun x => !x.2).map (·.1)).flatten ++ G)) := by
     have := R2.out.set (Builtin.zeroCells (.agg #[.string ⟨#[]⟩, .int .i64 0, .int .i64 0, .string ⟨#[]⟩] : Value).cells (xs.length - i)).toList (s := i * 4) (by omega) (by rw [hzl]; omega)
     rw [hlo, List.append_assoc] at this
     exact ⟨_, this⟩
    have HL : Aside (i = (xs.filter fun x => !x.2).length) := hil
    clear hil hlo hle hI hzl
    go_wp2
    go_ret
    exact ⟨by rw [← HL.out]; rfl, HE.out⟩
set_option maxHeartbeats 4000000 in
set_option maxRecDepth 1000000 in
theorem mN (ao : Option Addr) (n cap : Nat) (w : World) (g : Nat) (lb : Array Value)
    (hIF : Calls Tryz.prog 209 #[.slice ao n cap, .func (.func g) #[] lb] w fun e w' => e = .returned (.int .i64 (-1)) ∧ Below w.heap.size w w') :
    Calls Tryz.prog 207 #[.slice ao n cap, .func (.func g) #[] lb] w fun e w' => e = .returned (.slice ao n cap) ∧ Below w.heap.size w w' := by
 have e6 := Tryz.call209
 go_enter Tryz.func207, Tryz.ntmps207
 go_wp2_with fail
 refine hIF.mono ?_
 rintro e w' ⟨rfl, hb⟩
 go_wp2
 go_ret
 exact ⟨rfl, hb⟩
end Go.Proofs.YtddimbdeggomaaaGreat
end
section
set_option maxRecDepth 100000
set_option maxHeartbeats 4000000
namespace Go.Proofs.YtddimbdeggomaaaGreat
open Go Go.Sx Go.RowKit Go.Proofs
theorem mM (f : Nat) (c : List D) (p : TAttr → Bool) (l : List TAttr) (hf : ∀ s ∈ l, FnC Tryz.prog f [me s, .o (.q c)] (ob (p s))) (hl : l.length ≤ 8388608) :
    FnI Tryz.prog 207 181 4 (l.map aK) [.o (.f f [c])] false ((l.filter fun x => !p x).map aK) := by
 have he : ∀ x : TAttr, (aK x).length = 4 := fun x => rfl
 refine ⟨Tryz.call207, fun V w y S vs hm hrow hnd hlt hargs => ?_⟩
 have hl1 : vs.length = 1 := by have := hargs.1; simpa using this
 match vs, hl1 with
 | [v], _ =>
  have hv := hargs.2 0 _ v rfl rfl
  obtain ⟨lb, rfl, hlb, hcaps⟩ := hv
  have hcl : cSV [] V (.o (.f f [c])) (.func (.func f) #[] lb.toArray) := ⟨lb, rfl, hlb, hcaps⟩
  have hone : ∃ pv, lb = [pv] := by
   match lb, hlb with
   | [pv], _ => exact ⟨pv, rfl⟩
  obtain ⟨pv, rfl⟩ := hone
  have hq : cSV [] V (.o (.q c)) pv := hcaps 0 c pv rfl rfl
  have hI := iA f c p l hf hl
  obtain ⟨hu, h⟩ := qV hrow
  rcases h with ⟨⟨ao, rfl⟩, hnil, rfl⟩ | ⟨b, cap, ys, Ss, rfl, e3, e4, hR, el, eL, eV, rfl⟩
  ·have hl0 : l = [] := by simpa using hnil
   subst hl0
   have hIF := hI.calls V w [.slice ao 0 0, .func (.func f) #[] #[pv]] hm ⟨rfl, fun i s y e1 e2 => by
    match i with
    | 0 => simp at e1 e2; subst e1; subst e2; exact vd ao
    | 1 => simp at e1 e2; subst e1; subst e2; exact hcl
    | i + 2 => simp at e1⟩
   have hD := mN ao 0 0 w f #[pv] (hIF.mono (by
    rintro e w' ⟨y, rfl, hd⟩
    exact ⟨by simpa [bp] using kv hd, hd.below⟩))
   refine hD.mono ?_
   rintro e w' ⟨rfl, hb⟩
   exact ⟨_, rfl, (fun h => (by cases h)), ⟨eG _ hb, [], ⟨by simp, [], [], LayL.nil V, .inl ⟨⟨ao, rfl⟩, rfl, rfl⟩⟩, hnd, (fun b hb => .inl hb), (fun _ => rfl)⟩⟩
  ·rw [List.length_map] at e3 el
   have hlay := Dv (w := w) (ty := 181) hu eL (by simpa using e3) e4 eV
   have hcapl : (l.map aK).length = l.length := by simp
   rw [hcapl] at hlay
   have hIF := hI.calls (jT V b ys) w [.slice (some ⟨b, 0, none⟩) l.length cap, .func (.func f) #[] #[pv]] (sd hm hR) ⟨rfl, fun i s y e1 e2 => by
    match i with
    | 0 => simp at e1 e2; subst e1; subst e2; exact hlay
    | 1 => simp at e1 e2; subst e1; subst e2; exact hcl.mono (GLe.refl _) (pK eV _)
    | i + 2 => simp at e1⟩
   rw [hcapl]
   rcases Nat.eq_zero_or_pos l.length with h0 | h0
   ·have hnil : l = [] := List.eq_nil_of_length_eq_zero h0
    subst hnil
    have hD := mN (some ⟨b, 0, none⟩) 0 cap w f #[pv] (hIF.mono (by
     rintro e w' ⟨y, rfl, hd⟩
     exact ⟨by simpa [bp] using kv hd, hd.below⟩))
    refine hD.mono ?_
    rintro e w' ⟨rfl, hb⟩
    have hG := xN (rows := []) (ys := []) (Ss := []) (G := []) (V := V) (by simp) (LayL.nil V) ((hR.behind hb).pre (List.nil_prefix)) (by simp) e4 eV
    exact ⟨_, rfl, (fun h => (by cases h)), ⟨eG _ hb, _, by simpa using hG, by simp, (fun b hb => .inl (by simp at hb; simp [hb])), (fun h => (by cases h))⟩⟩
   ·have hg := hf l[0] (List.getElem_mem h0)
    have hxl := qX 4 p l ys
    have hxu := sI 4 p l ys el
    have hxf := ol 4 p l ys el
    obtain ⟨hs1, hs2⟩ := qZ 4 p l ys
    have hxg := qY 4 p l ys
    have hx1 : ∀ x ∈ eC 4 p ys l, ∀ v ∈ x.1, v.oneCell' = true := fun x hx v hv => by
     refine eL.oneCell v ?_
     rw [← hxf]
     exact List.mem_flatten.2 ⟨x.1, List.mem_map.2 ⟨x, hx, rfl⟩, hv⟩
    have hW := uc b cap (eC 4 p ys l) w f #[pv] (by rw [hxf]; exact hR) (by rw [hxl]; exact e3) (by simp only [maxLen] at e4; omega) hxu hx1 (bp p l 0) (by
        rcases idxP_spec p l 0 with h | ⟨k0, e1, e2, e5, e6⟩
        ·refine .inl ⟨h.1, fun x hx => ?_⟩
         obtain ⟨j, hj, rfl⟩ := List.mem_iff_getElem.1 hx
         rw [hxg j (by rw [hxl] at hj; exact hj) hj]
         exact h.2 _ (List.getElem_mem _)
        ·refine .inr ⟨k0, by rw [e1]; simp, by rw [hxl]; exact e2, ?_, fun j hj hjk => ?_⟩
         ·rw [hxg k0 e2]; exact e5
         ·rw [hxg j (by rw [hxl] at hj; exact hj) hj]; exact e6 j _ hjk) hg.enters (by
        rw [hxl]
        refine hIF.mono ?_
        rintro e w' ⟨y, rfl, hd⟩
        exact ⟨kv hd, hd.below⟩) (fun W F x hx hRW => by
        obtain ⟨j, hj, rfl⟩ := List.mem_iff_getElem.1 hx
        have hjl : j < l.length := by rw [hxl] at hj; exact hj
        rw [hxg j hjl hj]
        have hch := eL.chunk he j hjl
        refine ((hf l[j] (List.getElem_mem hjl)).calls V W [.agg ((ys.drop (j * 4)).take 4).toArray, pv] (hRW.mod hm eV) ⟨rfl, fun i s y e1 e2 => ?_⟩).mono ?_
        ·match i with
         | 0 => simp at e1 e2; subst e1; subst e2; exact ⟨_, rfl, EB hch⟩
         | 1 => simp at e1 e2; subst e1; subst e2; exact hq
         | i + 2 => simp at e1
        ·rintro e w' ⟨y, rfl, hd⟩
         exact ⟨ym hd, hd.below⟩)
    rw [hxl] at hW
    refine hW.mono ?_
    rintro e w' ⟨rfl, G, hG⟩
    rw [hs1] at hG
    rw [hs2]
    have hsel := eL.sel aK p he
    have hup := xN (V := V) (fun r hr => by obtain ⟨x, _, rfl⟩ := List.mem_map.1 hr; exact he x) hsel hG (by rw [List.length_map]; exact Nat.le_trans (List.length_filter_le _ _) e3) e4 eV
    rw [List.length_map] at hup
    have hsub := wo 4 p l Ss
    have hfs : (uf 4 p Ss l).flatten.Sublist Ss.flatten := wq hsub
    refine ⟨_, rfl, (fun h => (by cases h)), ⟨hG.grown, _, hup, ?_, (fun n hn => .inl ?_), (fun h => (by cases h))⟩⟩
    ·exact hnd.sublist (hfs.cons_cons b)
    ·exact (hfs.cons_cons b).subset hn
end Go.Proofs.YtddimbdeggomaaaGreat
end
section
set_option maxRecDepth 100000
set_option maxHeartbeats 4000000
namespace Go.Proofs.YtddimbdeggomaaaGreat
open Go Go.Sx Go.RowKit Go.Proofs
def isName (s : ByteArray) (y : TAttr) : Bool := decide (y.fName = s)
def dh (s : ByteArray) (y : TAttr) : Bool := !(dL y.fName s || decide (y.fName = s))
def dR (s : ByteArray) (l : List TAttr) : List TAttr := l.filter fun y => !isName s y
def t7 (s : ByteArray) (v : TValue) (l : List TAttr) : List TAttr := if v.fKind = 0 then dR s l else eB (bZ (dh s) (dR s l)) ⟨s, v⟩ (dR s l)
def t8 (f : TFile) (s : ByteArray) (v : TValue) : TFile := { f with fAttrs := t7 s v f.fAttrs }
theorem qR (s : ByteArray) (l : List TAttr) : (dR s l).length ≤ l.length := List.length_filter_le _ _
theorem og (f : TFile) (h : f.fAttrs.length ≤ 1048576) : FnC Tryz.prog 184 [a8 f] (nT f) := by
 refine ent Tryz.func184 rfl Tryz.call184 rfl (fun C => ?_); simp only [go_sem, st0, Tryz.ntmps184]
 refine cH (mp f.fAttrs (by omega)) ?_
 exact aa ⟨⟨_, rfl, by simp only [go_sem]⟩, trivial⟩
theorem B2 (s : ByteArray) (y : TAttr) : FnC Tryz.prog 208 [me y, .o (.q [sv s])] (ob (isName s y)) := by
 refine ent Tryz.func208 rfl Tryz.call208 rfl (fun C => ?_); simp only [go_sem, st0, Tryz.ntmps208]
 refine af ?_
 exact aa ⟨⟨_, rfl, by simp only [go_sem, isName]⟩, trivial⟩
theorem B3 (s : ByteArray) (y : TAttr) : FnC Tryz.prog 210 [me y, .o (.q [sv s])] (ob (dh s y)) := by
 refine ent Tryz.func210 rfl Tryz.call210 rfl (fun C => ?_); simp only [go_sem, st0, Tryz.ntmps210]
 refine af ?_
 exact aa ⟨⟨_, rfl, by simp only [go_sem, dh]⟩, trivial⟩
theorem mL (s : ByteArray) (l : List TAttr) (h : l.length ≤ 8388608) : FnI Tryz.prog 207 181 4 (l.map aK) [.o (.f 208 [[sv s]])] false ((dR s l).map aK) :=
 mM _ [sv s] (isName s) l (fun y _ => B2 s y) h
theorem qS (f : TFile) (s : ByteArray) (v : TValue) (h : f.fAttrs.length ≤ 1048576) : FnC Tryz.prog 143 [a8 f, os s, dX v] (nT (t8 f s v)) := by
 have hd := qR s f.fAttrs
 refine ent Tryz.func143 rfl Tryz.call143 rfl (fun C => ?_); simp only [go_sem, st0, Tryz.ntmps143]
 by_cases hv : v.fKind = 0
 ·have e : t7 s v f.fAttrs = dR s f.fAttrs := if_pos hv
  have qH := aI @hv @decide_true; repeat' (with_reducible first | refine nY ?_ | (refine mX ?_; try simp only [go_sem, qH]) | refine kD ?_ | refine rD ?_ | refine cP (og f h) ?_ | refine vI (mL s f.fAttrs (by omega)) ?_ | refine vJ (mL s f.fAttrs (by omega)) ?_ | refine aO ?_ | fail)
  exact aa ⟨⟨_, rfl, by simp only [go_sem, t8, e, dR]⟩, trivial⟩
 have e : t7 s v f.fAttrs = eB (bZ (dh s) (dR s f.fAttrs)) ⟨s, v⟩ (dR s f.fAttrs) := if_neg hv
 have hx := idxP_fst (dh s) (dR s f.fAttrs) 0
 have hle := mq (dh s) (dR s f.fAttrs)
 have qH := aI @hv @decide_false; repeat' (with_reducible first | refine nY ?_ | (refine mX ?_; try simp only [go_sem, qH]) | refine kD ?_ | refine rD ?_ | refine cP (og f h) ?_ | refine vI (mL s f.fAttrs (by omega)) ?_ | refine vJ (mL s f.fAttrs (by omega)) ?_ | refine vL (iA _ [sv s] (dh s) (dR s f.fAttrs) (fun y _ => B3 s y) (by omega)) ?_ | refine aO ?_ | fail)
 refine cnd (b := decide (bp (dh s) (dR s f.fAttrs) 0 < 0)) rfl (fun h5 => ?_) (fun h5 => ?_)
 ·have h5' := of_decide_eq_true h5
  have e5 : bZ (dh s) (dR s f.fAttrs) = (dR s f.fAttrs).length := by
   rcases hx with hx | hx
   ·exact hx.2.2
   ·omega
  have qH := trivial; repeat' (with_reducible first | refine nY ?_ | (refine mX ?_; try simp only [go_sem]) | refine kD ?_ | refine rD ?_ | refine vK (k7 ((dR s f.fAttrs).map aK) (aK ⟨s, v⟩) (dR s f.fAttrs).length (by simp) (by simp; omega)) ?_ | refine aO ?_ | fail)
  exact aa ⟨⟨_, rfl, by simp only [go_sem, t8, e, e5, eB, aK, List.map_append, List.map_cons, kJ, kK]⟩, trivial⟩
 ·have h5' := of_decide_eq_false h5
  have e5 : bp (dh s) (dR s f.fAttrs) 0 = ((bZ (dh s) (dR s f.fAttrs) : Nat) : Int) := by
   rcases hx with hx | hx
   ·omega
   ·simpa using hx.1
  have qH := @e5; repeat' (with_reducible first | refine nY ?_ | (refine mX ?_; try simp only [go_sem, qH]) | refine kD ?_ | refine rD ?_ | refine vK (k7 ((dR s f.fAttrs).map aK) (aK ⟨s, v⟩) (bZ (dh s) (dR s f.fAttrs)) (by simpa using hle) (by simp; omega)) ?_ | refine aO ?_ | fail)
  exact aa ⟨⟨_, rfl, by simp only [go_sem, t8, e, eB, aK, List.map_append, List.map_cons, kJ, kK]⟩, trivial⟩
theorem Ap (s : ByteArray) (l : List TAttr) (k : Nat) (h : k < l.length) : dR s (l.take (k + 1)) = dR s (l.take k) ++ (if isName s l[k] then [] else [l[k]]) := by
 simp only [dR, List.take_succ_eq_append_getElem h, List.filter_append, List.filter_cons, List.filter_nil]
 cases isName s l[k] <;> rfl
theorem qT (f : TFile) (s : ByteArray) (v : TValue) (h : f.fAttrs.length ≤ 1048576) : FnC Tryz.prog 141 [a8 f, os s, dX v] (nT (t8 f s v)) := by
 have hd := qR s f.fAttrs
 refine ent Tryz.func141 rfl Tryz.call141 rfl (fun C => ?_); simp only [go_sem, st0, Tryz.ntmps141]
 refine af ?_
 refine ak (α := Nat) (fun k => [(7, .o (.s 3)), (8, oi k), (11, .o .u)]) (fun k => [(3, .row 181 4 ((dR s (f.fAttrs.take k)).map aK) true)]) (fun k => k ≤ f.fAttrs.length) (fun k => f.fAttrs.length - k) 0 (fun _ => ?_) ?_ ?_ (fun k hk => ?_)
 ·simp only [go_sem]
 ·simp only [go_sem]; simp [dR]
 ·simp
 ·simp only [go_sem]
  refine af ?_
  refine cnd rfl (fun h1 => ?_) (fun h1 => ?_)
  ·simp only [decide_eq_true_eq, Int.ofNat_lt] at h1
   have ht := Ap s f.fAttrs k h1
   have hlen : (dR s (f.fAttrs.take k)).length ≤ 1048576 := by have := qR s (f.fAttrs.take k); simp at this; omega
   have q0 := @h1; refine cw ?_
   refine cnd (b := !(isName s f.fAttrs[k])) rfl (fun h2 => ?_) (fun h2 => ?_)
   ·have h2' : isName s f.fAttrs[k] = false := by simpa using h2
    rw [h2'] at ht
    have hl1 : (dR s (f.fAttrs.take k)).length + 1 ≤ 140737488355328 := by omega
    have hl2 : ((dR s (f.fAttrs.take k)).length + 1) * 48 ≤ 140737488355328 := by omega
    have q0 := @h1; refine cw ?_
    refine ae (k + 1) ?_ ?_ ?_
    ·simp only [go_sem, ht, List.map_append]; simp [aK]
    ·omega
    ·omega
   ·have h2' : isName s f.fAttrs[k] = true := by simpa using h2
    rw [h2'] at ht
    have q0 := @h1; refine cw ?_
    refine ae (k + 1) ?_ ?_ ?_
    ·simp only [go_sem, ht, List.map_append]; simp
    ·omega
    ·omega
  ·simp only [decide_eq_false_iff_not] at h1
   have e : k = f.fAttrs.length := by omega
   subst e
   by_cases hv : v.fKind = 0
   ·have e : t7 s v f.fAttrs = dR s f.fAttrs := if_pos hv
    have q0 := @hv; have q1 := @decide_true; refine fg ?_
    exact aa ⟨⟨_, rfl, by simp only [go_sem, t8, e, List.take_length]⟩, trivial⟩
   have e : t7 s v f.fAttrs = eB (bZ (dh s) (dR s f.fAttrs)) ⟨s, v⟩ (dR s f.fAttrs) := if_neg hv
   have htl : f.fAttrs.take f.fAttrs.length = f.fAttrs := List.take_length
   have q0 := @hv; have q1 := @decide_false; have q2 := @htl; refine fF ?_
   generalize hdl : dR s f.fAttrs = l at *
   refine ak (α := Nat) (fun n => [(9, oi n)]) (fun _ => []) (fun n => n ≤ l.length ∧ bZ (dh s) l = n + bZ (dh s) (l.drop n)) (fun n => l.length - n) 0 (fun _ => ?_) ?_ ?_ (fun n hn => ?_)
   ·simp only [go_sem]
   ·simp only [go_sem]; simp
   ·simp
   ·obtain ⟨hn, hf⟩ := hn
    simp only [go_sem]
    by_cases h5 : n < l.length
    ·have hfx := B4 (dh s) l n h5 hf
     have h5' : ((n : Int) < (l.length : Int)) = True := by simp [h5]
     have q0 := @h5; have q1 := @h5'; have q2 := @decide_true; refine fF ?_
     refine cnd (b := !(dh s l[n])) (by simp only [dh, Bool.not_not]; try rfl) (fun h6 => ?_) (fun h6 => ?_)
     ·have h6 : dh s l[n] = false := by simpa using h6
      rw [if_neg (by simp [h6])] at hfx
      refine af ?_
      refine ae (n + 1) ?_ ?_ ?_
      ·simp only [go_sem]; simp
      ·exact ⟨by omega, hfx⟩
      ·omega
     ·have h6 : dh s l[n] = true := by simpa using h6
      rw [if_pos h6] at hfx
      have qH := aI @h5 (aI @kJ (aI @kK (aI @nN (aI @nO @rd)))); repeat' (with_reducible first | refine nY ?_ | (refine mX ?_; try simp only [go_sem, qH]) | refine kD ?_ | refine rZ [3] ?_ | refine rX ?_ | refine xD ?_ | refine rD ?_ | refine aO ?_ | fail)
      exact aa ⟨⟨_, rfl, by simp only [go_sem, t8, e, hfx, eB, aK, List.map_append, List.map_cons, List.append_assoc, List.cons_append, List.nil_append, List.take_length]⟩, trivial⟩
    ·have e' : n = l.length := by omega
     have hfx : bZ (dh s) l = n := by rw [hf, e', List.drop_length]; rfl
     have h5' : ((n : Int) < (l.length : Int)) = False := by simp [h5]
     have qH := aI @h5 (aI @h5' (aI @decide_false (aI @kJ (aI @kK (aI @nN (aI @nO @rd)))))); repeat' (with_reducible first | refine nY ?_ | (refine mX ?_; try simp only [go_sem, qH]) | refine kD ?_ | refine rZ [3] ?_ | refine rX ?_ | refine xD ?_ | refine rD ?_ | refine aO ?_ | fail)
     exact aa ⟨⟨_, rfl, by simp only [go_sem, t8, e, hfx, eB, aK, List.map_append, List.map_cons, List.append_assoc, List.cons_append, List.nil_append, e', List.take_length, List.drop_length]⟩, trivial⟩
end Go.Proofs.YtddimbdeggomaaaGreat
end
section
set_option maxRecDepth 100000
set_option maxHeartbeats 4000000
namespace Go.Proofs.YtddimbdeggomaaaGreat
open Go Go.Sx Go.RowKit Go.Proofs
theorem ra {α : Type} (w : α → Nat) : ∀ l m : List α, wsum w (l ++ m) = wsum w l + wsum w m
 | [], m => by simp [wsum]
 | x :: l, m => by simp only [List.cons_append, wsum, ra w l m]; omega
theorem xP (i : Nat) (x : TAttr) (l : List TAttr) : bg (eB i x l) = bg l + (1 + wAttr x) := by
 have h1 : wsum wAttr l = wsum wAttr (l.take i) + wsum wAttr (l.drop i) := by rw [← ra, List.take_append_drop]
 have h2 : l.length = (l.take i).length + (l.drop i).length := by rw [← List.length_append, List.take_append_drop]
 simp only [bg, eB, ra, wsum, List.length_append, List.length_cons]
 omega
end Go.Proofs.YtddimbdeggomaaaGreat
end
section
set_option maxRecDepth 100000
set_option maxHeartbeats 4000000
namespace Go.Proofs.YtddimbdeggomaaaGreat
open Go Go.Sx Go.RowKit Go.Proofs
def Eu (l : List TAttr) (e : List TAttr) : List TAttr := e.foldl (fun l a => t7 a.fName a.fValue l) l
def F2 (f : TFile) (e : TEdit) : TFile := { f with fAttrs := Eu f.fAttrs e.fSet }
theorem B1 (s : ByteArray) : ∀ l : List TAttr, bg (dR s l) ≤ bg l
 | [] => by simp [dR]
 | x :: l => by
  have := B1 s l
  simp only [dR, bg] at this ⊢
  simp only [List.filter_cons]
  split <;> simp only [List.length_cons, wsum] <;> omega
theorem Ew (s : ByteArray) (v : TValue) (l : List TAttr) : bg (t7 s v l) ≤ bg l + (1 + wAttr ⟨s, v⟩) := by
 have := B1 s l
 unfold t7
 split
 ·omega
 ·rw [xP]; omega
theorem qQ (l : List TAttr) : l.length ≤ bg l := by unfold bg; omega
end Go.Proofs.YtddimbdeggomaaaGreat
end
section
set_option maxRecDepth 100000
set_option maxHeartbeats 4000000
namespace Go.Proofs.YtddimbdeggomaaaGreat
open Go Go.Sx Go.RowKit Go.Proofs
def ou (f : TFile) (u : Int) : Bool := inB u 0 2 && decide (f.fOwner = u)
def pE (f : TFile) (u : Int) : Bool := inB u 0 2 && (decide (f.fOwner = u) || f.fShared)
theorem dW (f : TFile) (u : Int) : FnC Tryz.prog 126 [a8 f, oi u] (ob (ou f u)) := by
 refine ent Tryz.func126 rfl Tryz.call126 rfl (fun C => ?_); simp only [go_sem, st0, Tryz.ntmps126]
 cases h : inB u 0 2
 all_goals
  have q0 := @h; refine cg (eU u) ?_
  exact aa ⟨⟨_, rfl, by simp only [go_sem, ou, h, Bool.true_and, Bool.false_and]⟩, trivial⟩
theorem gZ (f : TFile) (u : Int) : FnC Tryz.prog 149 [a8 f, oi u] (ob (ou f u)) := by
 refine ent Tryz.func149 rfl Tryz.call149 rfl (fun C => ?_); simp only [go_sem, st0, Tryz.ntmps149]
 cases h : inB u 0 2
 all_goals
  have q0 := @h; refine cg (aN u 0 2) ?_
  exact aa ⟨⟨_, rfl, by simp only [go_sem, ou, h, Bool.true_and, Bool.false_and]⟩, trivial⟩
theorem nP (f : TFile) (u : Int) : FnC Tryz.prog 127 [a8 f, oi u] (ob (pE f u)) := by
 refine ent Tryz.func127 rfl Tryz.call127 rfl (fun C => ?_); simp only [go_sem, st0, Tryz.ntmps127]
 cases h : inB u 0 2
 ·have q0 := @h; refine cg (eU u) ?_
  exact aa ⟨⟨_, rfl, by simp only [go_sem, pE, h, Bool.false_and]⟩, trivial⟩
 by_cases h2 : f.fOwner = u
 ·have q0 := @h; have q1 := @h2; have q2 := @decide_true; refine f0 (eU u) ?_
  exact aa ⟨⟨_, rfl, by simp only [go_sem, pE, h, h2, decide_true, Bool.true_and, Bool.true_or]⟩, trivial⟩
 ·have q0 := @h; have q1 := @h2; have q2 := @decide_false; refine f0 (eU u) ?_
  exact aa ⟨⟨_, rfl, by simp only [go_sem, pE, h, h2, decide_false, Bool.true_and, Bool.false_or]⟩, trivial⟩
theorem nQ (f : TFile) (u : Int) : FnC Tryz.prog 124 [a8 f, oi u] (ob (pE f u)) := by
 refine ent Tryz.func124 rfl Tryz.call124 rfl (fun C => ?_); simp only [go_sem, st0, Tryz.ntmps124]
 cases h : inB u 0 2
 ·have q0 := @h; refine cg (aN u 0 2) ?_
  exact aa ⟨⟨_, rfl, by simp only [go_sem, pE, h, Bool.false_and]⟩, trivial⟩
 by_cases h2 : f.fOwner = u
 ·have q0 := @h; have q1 := @h2; have q2 := @decide_true; refine f0 (aN u 0 2) ?_
  exact aa ⟨⟨_, rfl, by simp only [go_sem, pE, h, h2, decide_true, Bool.true_and, Bool.true_or]⟩, trivial⟩
 ·have q0 := @h; have q1 := @h2; have q2 := @decide_false; refine f0 (aN u 0 2) ?_
  exact aa ⟨⟨_, rfl, by simp only [go_sem, pE, h, h2, decide_false, Bool.true_and, Bool.false_or]⟩, trivial⟩
theorem u4 (s : ByteArray) : FnC Tryz.prog 144 [os s] (dX ⟨2, 0, s⟩) := by
 refine ent Tryz.func144 rfl Tryz.call144 rfl (fun C => ?_); simp only [go_sem, st0, Tryz.ntmps144]
 refine af ?_
 exact aa ⟨⟨_, rfl, by simp only [go_sem]⟩, trivial⟩
theorem nR (s : ByteArray) : FnC Tryz.prog 142 [os s] (dX ⟨2, 0, s⟩) := by
 refine ent Tryz.func142 rfl Tryz.call142 rfl (fun C => ?_); simp only [go_sem, st0, Tryz.ntmps142]
 refine af ?_
 exact aa ⟨⟨_, rfl, by simp only [go_sem]⟩, trivial⟩
theorem pF (c : TCatalog) (u id : Int) (h : wCatalog c ≤ 4300000) : FnC Tryz.prog 122 [aU c, oi u, oi id] (.t [(true, (a8 (aZ id c.fStore.fFiles)).cells), (false, [.d (bv (decide (0 ≤ ixF id c.fStore.fFiles) && (ou (aZ id c.fStore.fFiles) u && ib c)))])]) := by
 have hc : wCatalog c = al c.fStore + aA c.fDirs + ah c.fResults := rfl
 refine ent Tryz.func122 rfl Tryz.call122 rfl (fun C => ?_); simp only [go_sem, st0, Tryz.ntmps122]
 by_cases h1 : 0 ≤ ixF id c.fStore.fFiles
 case neg =>
  have qH := aI @h1 @decide_false; repeat' (with_reducible first | refine nY ?_ | (refine mX ?_; try simp only [go_sem, qH]) | refine kD ?_ | refine rT [11] [] ?_ | refine bi (aX ?_) (uX ?_) | refine bI (aX ?_) ?_ | (refine uA ?_; simp only [go_sem, qH]; (repeat' first | omega | refine And.intro ?_ ?_ | refine cP (bG c.fStore id (by omega)) ?_ | refine cP (gZ (aZ id c.fStore.fFiles) u) ?_ | refine cP (eP c h) ?_ | (refine mX ?_; simp only [go_sem, qH] <;> fail)); done) | refine rD ?_ | refine cP (bG c.fStore id (by omega)) ?_ | refine cP (gZ (aZ id c.fStore.fFiles) u) ?_ | refine cP (eP c h) ?_ | refine aO ?_ | fail)
  exact aa ⟨⟨_, rfl, by simp only [go_sem, h1, decide_false, Bool.false_and]⟩, by simp [aE]⟩
 cases h2 : ou (aZ id c.fStore.fFiles) u
 all_goals
  have qH := aI @h1 (aI @h2 @decide_true); repeat' (with_reducible first | refine nY ?_ | (refine mX ?_; try simp only [go_sem, qH]) | refine kD ?_ | refine rT [11] [] ?_ | refine bi (aX ?_) (uX ?_) | refine bI (aX ?_) ?_ | (refine uA ?_; simp only [go_sem, qH]; (repeat' first | omega | refine And.intro ?_ ?_ | refine cP (bG c.fStore id (by omega)) ?_ | refine cP (gZ (aZ id c.fStore.fFiles) u) ?_ | refine cP (eP c h) ?_ | (refine mX ?_; simp only [go_sem, qH] <;> fail)); done) | refine rD ?_ | refine cP (bG c.fStore id (by omega)) ?_ | refine cP (gZ (aZ id c.fStore.fFiles) u) ?_ | refine cP (eP c h) ?_ | refine aO ?_ | fail)
  exact aa ⟨⟨_, rfl, by simp only [go_sem, h1, h2, decide_true, Bool.true_and, Bool.false_and]⟩, by simp [aE]⟩
end Go.Proofs.YtddimbdeggomaaaGreat
end
