/- Joined texts. -/
import Derived.Test.YtgpoopjfkplilaaGreatDoorCards
import Derived.Test.YtgpoopjfkplilaaGreatDoorTie
import Derived.Test.YtgpoopjfkplilaaGreatDoorZ15
import Derived.Test.YtgpoopjfkplilaaGreatDoorZ06
import Derived.Test.YtgpoopjfkplilaaGreatDoorZ07
import Derived.OpenShut
import Derived.WalkKit
import Derived.ProofKit
import Derived.Deep.DeepHandedRow
import Derived.Deep.DeepWitnessRowRef
import Derived.Deep.DeepLaidRun
import Derived.Lib.LaidTab
import Derived.Stop.LaidErr
import Derived.Shelf.Vars
import Derived.Lib.Walk
import Derived.Lib.AtoiBound
import Derived.Test.YtgpoopjfkplilaaGreatDoorZ05
set_option linter.all false
section
set_option maxRecDepth 100000
namespace Go.Proofs.YtgpoopjfkplilaaGreatDoor
open Go Go.Sx Go.RowKit Go.Proofs
theorem a6T : (Tryz.prog.globals[4]?).map (·.type) = some 270 := by kernel_rfl
theorem a2E : Tryz.prog.cellsOf 270 = 20 := by kernel_rfl
theorem a4c : Tryz.prog.cellsOf 246 = 1 := by kernel_rfl
theorem a9o : Tryz.prog.underlying 270 = some (.array 20 246) := by kernel_rfl
theorem a6U : Tryz.prog.underlying 246 = some (.int .u64) := by kernel_rfl
theorem a5q : (Rows.laid_internal_strconv_uint64pow10 : DataW Unit) = Lib.tabData .u64 Lib.pow10Tab := by kernel_rfl
theorem a6V : (Tryz.prog.globals[0]?).map (·.type) = some 254 := by kernel_rfl
theorem a2F : Tryz.prog.cellsOf 254 = 256 := by kernel_rfl
theorem a4d : Tryz.prog.cellsOf 5 = 1 := by kernel_rfl
theorem a9p : Tryz.prog.underlying 254 = some (.array 256 5) := by kernel_rfl
theorem a6W : Tryz.prog.underlying 5 = some (.int .u8) := by kernel_rfl
theorem a5r : (Rows.laid_strings_asciiSpace : DataW Unit) = Lib.tabData .u8 Lib.asciiSpaceTab := by kernel_rfl
theorem a1g : Tryz.prog.globalNamed "strconv.ErrSyntax" = some 2 := by kernel_rfl
theorem a9q : (Tryz.prog.globals[2]?).map (·.type) = some 147 := by kernel_rfl
theorem b0I : ∃ ms, Tryz.prog.underlying 147 = some (.interface ms) := by
 have h : (match Tryz.prog.underlying 147 with | some (.interface _) => true | _ => false) = true := by kernel_rfl
 split at h
 ·exact ⟨_, by assumption⟩
 ·cases h
def a2V : List (String × DataW Unit) := [("math/bits.deBruijn32tab", Rows.laid_math_bits_deBruijn32tab), ("math/bits.deBruijn64tab", Rows.laid_math_bits_deBruijn64tab), ("internal/strconv.uint64pow10", Rows.laid_internal_strconv_uint64pow10), ("unicode/utf8.acceptRanges", Rows.laid_unicode_utf8_acceptRanges), ("strconv.ErrRange", Rows.laid_strconv_ErrRange), ("strconv.ErrSyntax", Rows.laid_strconv_ErrSyntax), ("unicode.White_Space", Rows.laid_unicode_White_Space), ("strings.asciiSpace", Rows.laid_strings_asciiSpace), ("unicode/utf8.first", Rows.laid_unicode_utf8_first)]
theorem a5s : (a2V.filter fun x => x.2.handleName?.isSome) = [] := by kernel_rfl
theorem a9r {W : World} (h : laidMetH Tryz.prog a2V W) : laidMet Tryz.prog a2V W := by
 unfold laidMetH at h
 rw [a5s] at h
 exact h
theorem b2C {W : World} {r : List (String × DataW Unit)} (h : laidMet Tryz.prog (("strconv.ErrSyntax", Rows.laid_strconv_ErrSyntax) :: r) W) : ∃ te pe, W.var? Tryz.prog "strconv.ErrSyntax" = some #[.iface te pe] := by
 obtain ⟨ps, ⟨g0, t0, cs0, f0, p0, q0, hg0, ht0, hv0, hd0, _, e0⟩, _⟩ := h
 obtain rfl := Option.some.inj (a1g.symm.trans hg0)
 obtain rfl := Option.some.inj (a9q.symm.trans ht0)
 obtain ⟨ms, hi⟩ := b0I
 obtain ⟨l0⟩ := cs0
 obtain ⟨_, u, v, e, _⟩ := iface_of_trod hi hd0
 have e : l0 = [.iface u v] := e
 subst e
 exact ⟨u, v, hv0⟩
theorem a2W {W : World} {n : String} {g : Nat} {cs : Array Value} (hg : Tryz.prog.globalNamed n = some g) (h : W.var? Tryz.prog n = some cs) : ∃ ty fz, W.heap[g]? = some (.cells cs ty fz) := by
 unfold World.var? at h
 rw [hg, Option.bind_some] at h
 split at h
 ·rename_i c ty fz e
  cases h
  exact ⟨ty, fz, e⟩
 ·cases h
theorem b2D {W : World} (h : W.ShapedOpen Tryz.prog) : ∃ m, W.cell? ⟨1, 0, none⟩ = some (.int .i64 m) :=
 cell_of_shapedOpen_int (zero := #[.int .i64 0]) (t := 3) h (of_decide_eq_true (by kernel_rfl)) (by kernel_rfl) rfl (by kernel_rfl) (by kernel_rfl) (by kernel_rfl)
theorem b2E {W : World} (h : laidMetH Tryz.prog a2V W) (hS : W.ShapedOpen Tryz.prog) : tabOK W [] := by
 have h' := a9r h
 unfold a2V at h'
 have h2 := h'.tail.tail
 have h5 := h2.tail.tail.tail
 have h7 := h5.tail.tail
 rw [a5q] at h2
 rw [a5r] at h7
 have t1 := b0T (Lib.tabIs_of_head sW a6T a9o a6U a4c a2E h2)
 have t2 := Lib.tabIs_of_head nU a6V a9p a6W a4d a2F h7
 obtain ⟨te, pe, t3⟩ := b2C h5
 obtain ⟨m, t4⟩ := b2D hS
 intro t ht
 refine ⟨by simp, ?_⟩
 rcases List.mem_append.1 ht with ht | ht
 ·exact t1 t ht
 ·have ht : t ∈ [_, _, _] := ht
  simp only [List.mem_cons, List.not_mem_nil, or_false] at ht
  rcases ht with rfl | rfl | rfl
  ·obtain ⟨ty, fz, e⟩ := a2W nU t2
   refine ⟨_, ty, fz, e, ?_⟩
   show _ = List.toArray _
   rw [a0k]
  ·obtain ⟨ty, fz, e⟩ := a2W a1g t3
   exact ⟨_, ty, fz, e, te, pe, rfl⟩
  ·unfold World.cell? at t4
   simp only at t4
   split at t4
   ·rename_i cs ty fz e
    exact ⟨cs, ty, fz, e, m, by simpa using t4⟩
   ·cases t4
def b6H : DataW Unit → Value
 | .lit (.int k n) => Value.int k n
 | _ => .bool false
def vZ : DataW Unit → List Value
 | .agg l => l.map b6H
 | _ => []
def b4h : DataW Unit → List Value
 | .agg l => l.flatMap vZ
 | _ => []
def b4i : DataW Unit → List Value
 | .ptr (.agg (.slice l _ :: _)) => l.flatMap vZ
 | _ => []
def a4e (cs : List Value) : Obj → Obj
 | .cells _ t frozen => .cells cs.toArray t frozen
 | o => o
noncomputable def uI (os : Os) : World :=
 let N := (World.settled Tryz.prog os).heap.size
 let w0 := World.holding Tryz.prog os ⟨#[.cells #[.string ⟨#[118, 97, 108, 117, 101, 32, 111, 117, 116, 32, 111, 102, 32, 114, 97, 110, 103, 101]⟩] 288, .cells #[.string ⟨#[105, 110, 118, 97, 108, 105, 100, 32, 115, 121, 110, 116, 97, 120]⟩] 288,
  .cells (b4i Rows.laid_unicode_White_Space).toArray 297, .cells #[.slice (some ⟨N + 2, 0, none⟩) 7 7, .slice none 0 0, .int .i64 2] 294], #[], []⟩
 let h1 := w0.heap.modify 8 (a4e (vZ Rows.laid_math_bits_deBruijn32tab))
 let h2 := h1.modify 9 (a4e (vZ Rows.laid_math_bits_deBruijn64tab))
 let h3 := h2.modify 4 (a4e (vZ Rows.laid_internal_strconv_uint64pow10))
 let h4 := h3.modify 7 (a4e (b4h Rows.laid_unicode_utf8_acceptRanges))
 let h5 := h4.modify 3 (a4e [.iface 286 (.pointer (some ⟨N, 0, none⟩))])
 let h6 := h5.modify 2 (a4e [.iface 286 (.pointer (some ⟨N + 1, 0, none⟩))])
 let h7 := h6.modify 5 (a4e [.pointer (some ⟨N + 3, 0, none⟩)])
 let h8 := h7.modify 0 (a4e (vZ Rows.laid_strings_asciiSpace))
 let h9 := h8.modify 6 (a4e (vZ Rows.laid_unicode_utf8_first))
 { w0 with heap := h9 }
set_option maxRecDepth 100000 in
theorem a9s (os : Os) (args : Array Value) : laidMet Tryz.prog a2V ((uI os).forCall (fun _ _ => 0) ⟨#[], args, []⟩).memory :=
 laidMet_of_run3 8 (by kernel_rfl) (by kernel_rfl) (by kernel_rfl)
end Go.Proofs.YtgpoopjfkplilaaGreatDoor
end
section
set_option maxRecDepth 100000
set_option maxHeartbeats 4000000
namespace Go.Proofs.YtgpoopjfkplilaaGreatDoor
open Go Go.Sx Go.Wd Go.RowKit Go.Proofs
theorem Done.ib {V : View} {w w' : World} (n : Int) (b : Bool) (hm : Mod V w) (hb : Below w.heap.size w w') : Done V w (.t [(false, [.d (iv n)]), (false, [.d (bv b)])]) (.tuple #[.int .i64 n, .bool b]) w' := by
 refine ⟨⟨V, [], View.le.refl V, ?_, (fun b cs h1 h2 => by rw [h1] at h2; cases h2), ?_, List.nodup_nil, (fun b hb => by cases hb)⟩, hb⟩
 ·intro b cs hbc
  obtain ⟨c, ty, fz, h1, h2⟩ := hm b cs hbc
  exact ⟨c, ty, fz, by rw [← h1]; exact hb.block b (Array.getElem?_eq_some_iff.1 h1).1, h2⟩
 ·refine ⟨[.int .i64 n, .bool b], ⟨[[.int .i64 n], [.bool b]], rfl, rfl, fun k b0 c m h1 h2 => ?_, [.int .i64 n, .bool b], rfl, rfl, fun k b0 c m v h1 h2 h3 => ?_⟩, ⟨[[], []], rfl, rfl, rfl, fun k a y s h1 h2 h3 => ?_⟩⟩
  ·match k, h1, h2 with
   | 0, h1, h2 => cases h1; cases h2; rfl
   | 1, h1, h2 => cases h1; cases h2; rfl
  ·match k, h1, h2, h3 with
   | 0, h1, h2, h3 => cases h1; cases h2; cases h3; rfl
   | 1, h1, h2, h3 => cases h1; cases h2; cases h3; rfl
  ·match k, h1, h2, h3 with
   | 0, h1, h2, h3 => cases h1; cases h2; cases h3; exact ⟨rfl, [], .v _ rfl⟩
   | 1, h1, h2, h3 => cases h1; cases h2; cases h3; exact ⟨rfl, [], .v _ rfl⟩
theorem b5o {V : View} {w w' : World} {x y : Value} (h : Done V w (.o (.d (.v x))) y w') : y = x := by
 obtain ⟨V', S, _, _, _, ⟨l, hs, hr⟩, _⟩ := h.out
 obtain ⟨Ss, r1, r2, r3, r4⟩ := hr
 have hl : l = [y] := hs
 subst hl
 obtain ⟨_, T', hL⟩ := r4 0 (.d (.v x)) y _ rfl rfl (List.getElem?_eq_getElem (by rw [r2]; simp [SV.all]))
 cases hL; rfl
theorem a3V {f : Nat} {xs : List Value} {y : Value} (hx : ∀ x ∈ xs, scalar x = true) (c : FnC Tryz.prog f (xs.map fun x => .o (.d (.v x))) (.o (.d (.v y)))) {w : World} (htab : tabOK w []) : Calls Tryz.prog f xs.toArray w fun e w' => e = .returned y ∧ Below w.heap.size w w' := by
 refine (c.calls (fun _ => none) w xs htab (fun b cs h => by cases h) ⟨by simp, fun k s z h1 h2 => ?_⟩).mono ?_
 ·rw [List.getElem?_map, h2] at h1
  cases h1
  exact ⟨[], .v _ (hx z (List.mem_of_getElem? h2))⟩
 ·rintro e w' ⟨z, rfl, hd⟩
  rw [b5o hd]
  exact ⟨rfl, hd.below⟩
theorem a3W {w w' : World} (h : tabOK w []) (hb : Below w.heap.size w w') : tabOK w' [] := fun t ht => by
 obtain ⟨h1, h2⟩ := h t ht
 exact ⟨h1, by rw [hb.block _ (h.lt ht)]; exact h2⟩
theorem a3X {n : Int} (h : 0 ≤ n) : Lib.atoi (Lib.itoa n) = some n := by
 have h1 := a8m h
 have h2 := wB h
 have h3 := kG h
 cases hl : Lib.itoa n with
 | nil => exact absurd hl h1
 | cons b r =>
  rw [hl] at h2 h3
  have hb := h2 b (by simp)
  unfold Lib.atoi
  have e43 : (b == 43) = false := by rw [beq_eq_false_iff_ne]; rintro rfl; simp at hb
  have e45 : (b == 45) = false := by rw [beq_eq_false_iff_ne]; rintro rfl; simp at hb
  have e1 : Lib.decNat (b :: r) = some n.toNat := by unfold Lib.decNat; rw [if_neg (by simp), h3]
  simp only [e43, e45, Bool.false_eq_true, if_false, e1]
  simp
  omega
theorem b3N {s : ByteArray} {n : Int} (h : Lib.atoi s.data.toList = some n) : pU s = if inB n 0 1000000000 && decide (itoaB n = s) then (n, true) else (0, false) := by
 have key : ∀ m : Int, 0 ≤ m → itoaB m = s → m = n := fun m h0 e => by
  rw [← e, iO, a3X h0] at h
  exact Option.some.inj h
 split
 ·rename_i hc
  simp [inB] at hc
  exact mW hc.1.1 hc.1.2 hc.2
 ·rename_i hc
  refine a2X fun m h0 h1 e => hc ?_
  have := key m h0 e
  subst this
  simp [inB, h0, h1, e]
theorem b3O {s : ByteArray} (h : Lib.atoi s.data.toList = none) : pU s = (0, false) := a2X fun m h0 h1 e => by
 rw [← e, iO, a3X h0] at h; cases h
theorem a9m {s : ByteArray} (h : ¬ s.size ≤ 10) : pU s = (0, false) := a2X fun m h0 h1 e => h (by rw [← e]; exact a5w h0 h1)
noncomputable abbrev rU (s : ByteArray) : SV := .t [(false, [.d (iv (pU s).1)]), (false, [.d (bv (pU s).2)])]
theorem gV (s : ByteArray) : FnC Tryz.prog 63 [os s] (rU s) := by
 refine ⟨Tryz.call63, fun V w vs htab hm hargs => ?_⟩
 obtain ⟨hl, hv⟩ := hargs
 match vs, hl with
 | [y], _ =>
 obtain ⟨rfl, _⟩ := aU (hv 0 (os s) y rfl rfl)
 suffices h : Calls Tryz.prog 63 #[.string s] w fun e w' => e = .returned (.tuple #[.int .i64 (pU s).1, .bool (pU s).2]) ∧ Below w.heap.size w w' by
  refine h.mono ?_
  rintro e w' ⟨rfl, hb⟩
  exact ⟨_, rfl, Done.ib _ _ hm hb⟩
 have e1 := Tryz.call110
 have e2 := Tryz.call111
 have e3 := Tryz.call49
 by_cases hs : s.size ≤ 10
 ·have hgt : ¬ (10 < (s.size : Int)) := by omega
  have hA := a9w s hs (V := V) htab
  have HT : Aside (tabOK w []) := htab
  cases h : Lib.atoi s.data.toList with
  | none =>
   rw [h] at hA
   rw [b3O h]
   clear htab hm hv h
   go_enter Tryz.func63, Tryz.ntmps63
   go_wp2_with fail
   refine hA.mono ?_
   rintro e w1 ⟨⟨v, rfl, _, h2⟩, hb⟩
   obtain ⟨te, pe, rfl⟩ := h2 rfl
   go_wp2
   go_ret2
   exact ⟨rfl, hb⟩
  | some n =>
   have hn := Lib.atoi_bound h (by have : s.size = s.data.toList.length := rfl; omega)
   have hni : inR .i64 n := by unfold inR; simp only; omega
   rw [h] at hA
   have hR := b3N h
   generalize pU s = R at hR
   have HR : Aside (R = _) := hR
   have cW : ∀ W, tabOK W [] → Calls Tryz.prog 111 #[.int .i64 n, .int .i64 0, .int .i64 1000000000] W fun e w' => e = .returned (.bool (inB n 0 1000000000)) ∧ Below W.heap.size W w' := fun W hW => a3V (xs := [.int .i64 n, .int .i64 0, .int .i64 1000000000]) (by simp [scalar]) (aF n 0 1000000000) hW
   have cF : ∀ W, tabOK W [] → Calls Tryz.prog 49 #[.int .i64 n] W fun e w' => e = .returned (.string (itoaB n)) ∧ Below W.heap.size W w' := fun W hW => a3V (xs := [.int .i64 n]) (by simp [scalar]) (fK n hni) hW
   have CW : Aside _ := cW
   have CF : Aside _ := cF
   clear htab hm hv h cW cF hn hni hR
   go_enter Tryz.func63, Tryz.ntmps63
   go_wp2_with fail
   refine hA.mono ?_
   rintro e w1 ⟨⟨v, rfl, h2, _⟩, hb⟩
   obtain rfl := h2 rfl
   have HT1 : Aside (tabOK w1 []) := a3W HT.out hb
   have hc := CW.out w1 HT1.out
   go_wp2_with fail
   refine hc.mono ?_
   rintro e w2 ⟨rfl, hb2⟩
   have hb3 : Below w.heap.size w w2 := hb.trans (hb2.mono hb.size)
   cases hi : inB n 0 1000000000 with
   | false =>
    go_wp2
    go_ret2
    exact ⟨by rw [HR.out]; simp [hi], hb3⟩
   | true =>
    have HT2 : Aside (tabOK w2 []) := a3W HT1.out hb2
    have hc2 := CF.out w2 HT2.out
    go_wp2_with fail
    refine hc2.mono ?_
    rintro e w3 ⟨rfl, hb4⟩
    have hb5 : Below w.heap.size w w3 := hb3.trans (hb4.mono hb3.size)
    by_cases he : itoaB n = s
    ·go_wp2
     go_ret2
     exact ⟨by rw [HR.out]; simp [hi, he], hb5⟩
    ·have hne : ((itoaB n).toList == s.toList) = false := by rw [bN]; simp [he]
     go_wp2
     go_ret2
     exact ⟨by rw [HR.out]; simp [hi, he], hb5⟩
 ·rw [a9m hs]
  have hgt : 10 < (s.size : Int) := by omega
  clear htab hm hv
  go_enter Tryz.func63, Tryz.ntmps63
  go_wp2
  go_ret2
  exact ⟨rfl, Below.refl _ _⟩
theorem qI (s : ByteArray) : FnC Tryz.prog 61 [os s] (rU s) := by
 refine ent Tryz.func61 rfl Tryz.call61 rfl (fun C => ?_); simp only [go_sem, st0, Tryz.ntmps61]
 have hdl : s.size = s.data.toList.length := rfl
 by_cases hs : ¬ s.size ≤ 10
 ·have d : decide ((10 : Int) < (s.size : Int)) = true := by simp; omega
  have e := a9m hs
  have q0 := @d; refine oV ?_
  exact aA ⟨⟨_, rfl, by simp only [go_sem, e]⟩, by simp [aM]⟩
 have hs : s.size ≤ 10 := by omega
 have d0 : decide ((10 : Int) < (s.size : Int)) = false := by simp; omega
 have q0 := @d0; refine oV ?_
 refine bE (α := Nat × Nat) (fun x => [(4, oi (x.2 : Nat)), (5, oi (x.1 : Nat))]) (fun _ => []) (fun x => x.1 ≤ s.size ∧ Lib.decFrom 0 (s.data.toList.take x.1) = some x.2) (fun x => s.size - x.1) (0, 0) (fun _ => ?_) ?_ ?_ (fun x hx => ?_)
 ·simp only [go_sem]
 ·simp only [go_sem]; simp
 ·exact ⟨Nat.zero_le _, rfl⟩
 ·obtain ⟨k, n⟩ := x
  obtain ⟨hk, hn⟩ := hx
  simp only at hk hn
  have hlt := Lib.decFrom_lt _ _ _ hn
  have hp : (10 : Nat) ^ (s.data.toList.take k).length ≤ 10 ^ 10 := Nat.pow_le_pow_right (by omega) (by rw [List.length_take]; omega)
  have hp' : (10 : Nat) ^ 10 = 10000000000 := rfl
  simp only [go_sem]
  refine aJ ?_
  refine cnd rfl (fun h => ?_) (fun h => ?_)
  ·simp only [decide_eq_true_eq, Int.ofNat_lt] at h
   have hb := pQ s k
   have hat : s.data.toList[k]? = some s.data.toList[k] := List.getElem?_eq_getElem (by omega)
   have hbe : cZ s k = (s.data.toList[k].toNat : Int) := by
    unfold cZ; rw [List.getD_eq_getElem?_getD, hat]; rfl
   have hmem : s.data.toList[k] ∈ s.data.toList := List.getElem_mem _
   generalize s.data.toList[k] = b at *
   by_cases h1 : cZ s k < 48
   ·have e := xC hmem (.inl (by omega))
    have q0 := @h; have q1 := @h1; have q2 := @decide_true; refine kZ ?_
    exact aA ⟨⟨_, rfl, by simp only [go_sem, e]⟩, by simp [aM]⟩
   by_cases h2 : 57 < cZ s k
   ·have e := xC hmem (.inr (by omega))
    have q0 := @h; have q1 := @h1; have q2 := @h2; have q3 := @decide_true; have q4 := @decide_false; refine sJ ?_
    exact aA ⟨⟨_, rfl, by simp only [go_sem, e]⟩, by simp [aM]⟩
   ·have i1 : inR .i64 (cZ s k) := by unfold inR; simp only; omega
    have i2 : inR .i64 (10 * (n : Int)) := by unfold inR; simp only; omega
    have i3 : inR .i64 (10 * (n : Int) + cZ s k) := by unfold inR; simp only; omega
    have i4 : inR .i64 (10 * (n : Int) + cZ s k - 48) := by unfold inR; simp only; omega
    have hd : Lib.digitVal b = some (b.toNat - 48) := by unfold Lib.digitVal; rw [if_pos (by omega)]
    have hst := Lib.decFrom_take _ k 0 n b _ hn hat hd
    have e1 : (10 * (n : Int) + cZ s k - 48) = ((n * 10 + (b.toNat - 48) : Nat) : Int) := by omega
    have q0 := @h; have q1 := @h1; have q2 := @h2; have q3 := @i1; have q4 := @i2; have q5 := @i3; have q6 := @i4; have q7 := @decide_false; refine a0H ?_
    refine aH (k + 1, n * 10 + (b.toNat - 48)) ?_ ?_ ?_
    ·simp only [go_sem, e1]; simp
    ·exact ⟨h, hst⟩
    ·simp only; omega
  ·simp only [decide_eq_false_iff_not] at h
   have e : k = s.size := by omega
   subst e
   have hn' : Lib.decFrom 0 s.data.toList = some n := by rw [hdl, List.take_length] at hn; exact hn
   have key : ∀ m : Int, 0 ≤ m → itoaB m = s → m = n := fun m h0 e => by
    rw [← e, iO, kG h0] at hn'
    have := Option.some.inj hn'
    omega
   by_cases h1 : (1000000000 : Int) < (n : Int)
   ·have e : pU s = (0, false) := a2X fun m h0 hm e => by have := key m h0 e; omega
    have q0 := @h1; have q1 := @decide_true; refine jN ?_
    exact aA ⟨⟨_, rfl, by simp only [go_sem, e]⟩, by simp [aM]⟩
   have c := fM (n : Int) (by unfold inR; simp only; omega)
   by_cases h2 : itoaB (n : Int) = s
   ·have e : pU s = ((n : Int), true) := mW (by omega) (by omega) h2
    have q0 := @h1; have q1 := @h2; have q2 := @decide_true; have q3 := @decide_false; have q4 := @Bool.not_true; refine nT c ?_
    exact aA ⟨⟨_, rfl, by simp only [go_sem, e]⟩, by simp [aM]⟩
   ·have e : pU s = (0, false) := a2X fun m h0 hm e => h2 (by rw [← key m h0 e]; exact e)
    have q0 := @h1; have q1 := @h2; have q2 := @decide_true; have q3 := @decide_false; have q4 := @Bool.not_false; refine nT c ?_
    exact aA ⟨⟨_, rfl, by simp only [go_sem, e]⟩, by simp [aM]⟩
theorem a6O (n : Int) : FnC Tryz.prog 195 [oi n] (kN ⟨1, n, ⟨#[]⟩⟩) := by
 refine ent Tryz.func195 rfl Tryz.call195 rfl (fun C => ?_); simp only [go_sem, st0, Tryz.ntmps195]
 refine aJ ?_
 exact aA ⟨⟨_, rfl, by simp only [go_sem]⟩, trivial⟩
theorem a6P (s : ByteArray) : FnC Tryz.prog 196 [os s] (kN ⟨2, 0, s⟩) := by
 refine ent Tryz.func196 rfl Tryz.call196 rfl (fun C => ?_); simp only [go_sem, st0, Tryz.ntmps196]
 refine aJ ?_
 exact aA ⟨⟨_, rfl, by simp only [go_sem]⟩, trivial⟩
theorem a6Q (n : Int) : FnC Tryz.prog 157 [oi n] (kN ⟨1, n, ⟨#[]⟩⟩) := by
 refine ent Tryz.func157 rfl Tryz.call157 rfl (fun C => ?_); simp only [go_sem, st0, Tryz.ntmps157]
 refine aJ ?_
 exact aA ⟨⟨_, rfl, by simp only [go_sem]⟩, trivial⟩
theorem a6R (s : ByteArray) : FnC Tryz.prog 156 [os s] (kN ⟨2, 0, s⟩) := by
 refine ent Tryz.func156 rfl Tryz.call156 rfl (fun C => ?_); simp only [go_sem, st0, Tryz.ntmps156]
 refine aJ ?_
 exact aA ⟨⟨_, rfl, by simp only [go_sem]⟩, trivial⟩
noncomputable abbrev rV (s : ByteArray) : SV := .t [(true, [.d (iv (pV s).1.fKind), .d (iv (pV s).1.fInt), .d (sv (pV s).1.fStr)]), (false, [.d (bv (pV s).2)])]
theorem kQ (s : ByteArray) (hs : s.size ≤ 4300000) : FnC Tryz.prog 148 [os s] (rV s) := by
 refine ent Tryz.func148 rfl Tryz.call148 rfl (fun C => ?_); simp only [go_sem, st0, Tryz.ntmps148]
 have e0 : (⟨#[]⟩ : ByteArray).size = 0 := rfl
 have c := gV s
 have hin := b0O s
 cases h : (pU s).2
 ·by_cases h1 : s = ⟨#[45]⟩
  ·have hw : pW s = v0 := by unfold pW; rw [h, if_neg (by simp), if_pos h1]
   have e : pV s = (v0, true) := by unfold pV; rw [hw]; rfl
   have cv := aC v0 (by show v0.fStr.size ≤ _; simp only [v0]; omega)
   have ok : cB v0 = true := by decide
   rw [ok] at cv
   have d1 : decide (s = ⟨#[45]⟩) = true := by simp [h1]
   clear h1
   have cv : FnC Tryz.prog 141 [.g [.d (iv 0), .d (iv 0), .d (sv ⟨#[]⟩)]] (ob true) := cv
   have q0 := @h; have q1 := @d1; have q2 := @Bool.not_true; refine a6c c cv ?_
   exact aA ⟨⟨_, rfl, by simp only [go_sem, e, v0]⟩, by simp [aM]⟩
  ·have hw : pW s = ⟨2, 0, s⟩ := by unfold pW; rw [h, if_neg (by simp), if_neg h1]
   have cv := aC ⟨2, 0, s⟩ hs
   have cs := a6P s
   cases ok : cB ⟨2, 0, s⟩
   ·have e : pV s = (v0, false) := by unfold pV; rw [hw, ok]; rfl
    rw [ok] at cv
    have q0 := @h; have q1 := @h1; have q2 := @decide_false; have q3 := @Bool.not_false; refine b4P c cs cv ?_
    exact aA ⟨⟨_, rfl, by simp only [go_sem, e, v0]⟩, by simp [aM]⟩
   ·have e : pV s = (⟨2, 0, s⟩, true) := by unfold pV; rw [hw, ok]; rfl
    rw [ok] at cv
    have q0 := @h; have q1 := @h1; have q2 := @decide_false; have q3 := @Bool.not_false; refine b4P c cs cv ?_
    exact aA ⟨⟨_, rfl, by simp only [go_sem, e]⟩, by simp [aM]⟩
 ·have hw : pW s = ⟨1, (pU s).1, ⟨#[]⟩⟩ := by unfold pW; rw [h, if_pos rfl]
  have cv := aC ⟨1, (pU s).1, ⟨#[]⟩⟩ (by simp only; omega)
  have cs := a6O (pU s).1
  cases ok : cB ⟨1, (pU s).1, ⟨#[]⟩⟩
  ·have e : pV s = (v0, false) := by unfold pV; rw [hw, ok]; rfl
   rw [ok] at cv
   have q0 := @h; refine b5P c cs cv ?_
   exact aA ⟨⟨_, rfl, by simp only [go_sem, e, v0]⟩, by simp [aM]⟩
  ·have e : pV s = (⟨1, (pU s).1, ⟨#[]⟩⟩, true) := by unfold pV; rw [hw, ok]; rfl
   rw [ok] at cv
   have q0 := @h; refine b5P c cs cv ?_
   exact aA ⟨⟨_, rfl, by simp only [go_sem, e]⟩, by simp [aM]⟩
theorem kR (s : ByteArray) (hs : s.size ≤ 4300000) : FnC Tryz.prog 103 [os s] (rV s) := by
 refine ent Tryz.func103 rfl Tryz.call103 rfl (fun C => ?_); simp only [go_sem, st0, Tryz.ntmps103]
 have e0 : (⟨#[]⟩ : ByteArray).size = 0 := rfl
 have c := qI s
 have hin := b0O s
 have c2 := a6R s
 by_cases h1 : s = ⟨#[45]⟩
 ·have h : (pU s).2 = false := by
   rw [h1, xC (b := 45) (by simp) (.inl (by decide))]
  have hw : pW s = v0 := by unfold pW; rw [h, if_neg (by simp), if_pos h1]
  have e : pV s = (v0, true) := by unfold pV; rw [hw]; rfl
  have d1 : decide (s = ⟨#[45]⟩) = true := by simp [h1]
  clear h1
  have q0 := @d1; refine oV ?_
  exact aA ⟨⟨_, rfl, by simp only [go_sem, e, v0]⟩, by simp [aM]⟩
 cases h : (pU s).2
 ·have hw : pW s = ⟨2, 0, s⟩ := by unfold pW; rw [h, if_neg (by simp), if_neg h1]
  have cv := aK ⟨2, 0, s⟩ hs
  cases ok : cB ⟨2, 0, s⟩
  ·have e : pV s = (v0, false) := by unfold pV; rw [hw, ok]; rfl
   rw [ok] at cv
   have q0 := @h; have q1 := @h1; have q2 := @decide_false; have q3 := @Bool.not_false; refine b4P c c2 cv ?_
   exact aA ⟨⟨_, rfl, by simp only [go_sem, e, v0]⟩, by simp [aM]⟩
  ·have e : pV s = (⟨2, 0, s⟩, true) := by unfold pV; rw [hw, ok]; rfl
   rw [ok] at cv
   have ef : eT ⟨2, 0, s⟩ = s := by simp [eT, ok]
   have cf := fP ⟨2, 0, s⟩ hs (by unfold inR; simp)
   rw [ef] at cf
   have q0 := @h; have q1 := @h1; have q2 := @decide_false; have q3 := @decide_true; have q4 := @Bool.not_true; have q5 := @Bool.not_false; refine b6Z c c2 cv cf ?_
   exact aA ⟨⟨_, rfl, by simp only [go_sem, e]⟩, by simp [aM]⟩
 ·have hw : pW s = ⟨1, (pU s).1, ⟨#[]⟩⟩ := by unfold pW; rw [h, if_pos rfl]
  have cv := aK ⟨1, (pU s).1, ⟨#[]⟩⟩ (by simp only; omega)
  have cs := a6Q (pU s).1
  cases ok : cB ⟨1, (pU s).1, ⟨#[]⟩⟩
  ·have e : pV s = (v0, false) := by unfold pV; rw [hw, ok]; rfl
   rw [ok] at cv
   have q0 := @h; have q1 := @h1; have q2 := @decide_false; have q3 := @Bool.not_false; refine b1D c c2 cs cv ?_
   exact aA ⟨⟨_, rfl, by simp only [go_sem, e, v0]⟩, by simp [aM]⟩
  ·have e : pV s = (⟨1, (pU s).1, ⟨#[]⟩⟩, true) := by unfold pV; rw [hw, ok]; rfl
   rw [ok] at cv
   have ef : eT ⟨1, (pU s).1, ⟨#[]⟩⟩ = s := by
    have := b4l h
    simp [eT, ok, this]
   have cf := fP ⟨1, (pU s).1, ⟨#[]⟩⟩ (by simp only; omega) (b0P s)
   rw [ef] at cf
   have q0 := @h; have q1 := @h1; have q2 := @decide_false; have q3 := @decide_true; have q4 := @Bool.not_true; have q5 := @Bool.not_false; refine b7a c c2 cs cv cf ?_
   exact aA ⟨⟨_, rfl, by simp only [go_sem, e]⟩, by simp [aM]⟩
abbrev rSF (s : ByteArray) : SV := .t [(false, [.w 9 1 ((sfL s).map bD)]), (false, [.d (bv (sfO s))])]
theorem wY (s : ByteArray) (hs : s.size ≤ 4300000) : FnC Tryz.prog 149 [os s] (rSF s) := by
 refine ent Tryz.func149 rfl Tryz.call149 rfl (fun C => ?_); simp only [go_sem, st0, Tryz.ntmps149]
 by_cases h6 : (600 : Int) < (s.size : Int)
 ·have e : sfO s = false := by unfold sfO; simp; omega
  have e2 : sfL s = [] := by unfold sfL; rw [e]; rfl
  have q0 := @h6; have q1 := @decide_true; refine jN ?_
  exact aA ⟨⟨_, rfl, by simp only [go_sem, e, e2]⟩, by simp [aM]⟩
 have q0 := @h6; have q1 := @decide_false; refine jN ?_
 refine bE (α := Nat) (fun k => [(11, oi (k : Nat))]) (fun _ => []) (fun k => k ≤ s.size ∧ uY s = ((List.range s.size).drop k).all (chB s)) (fun k => s.size - k) 0 (fun _ => ?_) ?_ ?_ (fun k hk => ?_)
 ·simp only [go_sem]
 ·simp only [go_sem]; simp
 ·simp [uY]
 obtain ⟨hk, hq⟩ := hk
 simp only [go_sem]
 refine aJ ?_
 refine cnd rfl (fun h => ?_) (fun h => ?_)
 ·simp only [decide_eq_true_eq, Int.ofNat_lt] at h
  have h' : k < (List.range s.size).length := by simpa using h
  have hd := List.drop_eq_getElem_cons h'
  rw [hd, List.all_cons, List.getElem_range] at hq
  have hb := pQ s k
  have i1 : inR .i64 (cZ s k) := by unfold inR; simp only; omega
  have cw := aF (cZ s k) 32 126
  cases hc : inB (cZ s k) 32 126
  ·have ec : uY s = false := by rw [hq]; unfold chB; rw [hc]; rfl
   have e : sfO s = false := by unfold sfO; rw [ec]; simp
   have e2 : sfL s = [] := by unfold sfL; rw [e]; rfl
   rw [hc] at cw
   have q0 := @h; have q1 := @i1; have q2 := @Bool.not_false; refine jT cw ?_
   exact aA ⟨⟨_, rfl, by simp only [go_sem, e, e2]⟩, by simp [aM]⟩
  ·rw [hc] at cw
   have q0 := @h; have q1 := @i1; have q2 := @Bool.not_true; refine jT cw ?_
   refine aH (k + 1) ?_ ?_ ?_
   ·simp only [go_sem]; simp
   ·refine ⟨h, ?_⟩
    rw [hq]; unfold chB; rw [hc]; simp
   ·omega
 ·simp only [decide_eq_false_iff_not] at h
  have e : k = s.size := by omega
  have hc : uY s = true := by rw [hq, List.drop_of_length_le (by simp [e])]; rfl
  have cf := a9v s (by omega) hc
  by_cases h7 : (24 : Int) < ((flds s).length : Int)
  ·have e : sfO s = false := by unfold sfO; simp; omega
   have e2 : sfL s = [] := by unfold sfL; rw [e]; rfl
   have qH := aI @h7 (aI @bI @decide_true); repeat' (with_reducible first | refine nY ?_ | (refine mX ?_; try simp only [go_sem, qH]) | refine kD ?_ | refine rD ?_ | refine vR cf ?_ | refine vD cf ?_ | refine aO ?_ | fail)
   exact aA ⟨⟨_, rfl, by simp only [go_sem, e, e2]⟩, by simp [aM]⟩
  ·have e : sfO s = true := by unfold sfO; rw [hc]; simp; omega
   have e2 : sfL s = flds s := by unfold sfL; rw [e]; rfl
   have qH := aI @h7 (aI @bI @decide_false); repeat' (with_reducible first | refine nY ?_ | (refine mX ?_; try simp only [go_sem, qH]) | refine kD ?_ | refine rD ?_ | refine vR cf ?_ | refine vD cf ?_ | refine aO ?_ | fail)
   exact aA ⟨⟨_, rfl, by simp only [go_sem, e, e2]⟩, by simp [aM]⟩
theorem b3P {s : ByteArray} {k : Nat} {b : UInt8} (hb : s.data.toList[k]? = some b) (hc : chB s k = true) : Lib.isSp b = decide (cZ s k = 32) := by
 have e : cZ s k = (b.toNat : Int) := by unfold cZ; rw [List.getD_eq_getElem?_getD, hb]; rfl
 unfold chB inB at hc
 rw [e] at hc ⊢
 simp at hc
 unfold Lib.isSp
 have key : ∀ n : Nat, n < 32 → (b == UInt8.ofNat n) = false := fun n hn => by
  rw [beq_eq_false_iff_ne]
  intro e
  rw [e, UInt8.toNat_ofNat'] at hc; omega
 have k9 := key 9 (by omega); have k10 := key 10 (by omega); have k11 := key 11 (by omega); have k12 := key 12 (by omega); have k13 := key 13 (by omega)
 have k9 : (b == 9) = false := k9
 have k10 : (b == 10) = false := k10
 have k11 : (b == 11) = false := k11
 have k12 : (b == 12) = false := k12
 have k13 : (b == 13) = false := k13
 rw [k9, k10, k11, k12, k13]
 simp only [Bool.false_or]
 by_cases h : b = 32
 ·subst h; rfl
 ·have h1 : (b == 32) = false := by rw [beq_eq_false_iff_ne]; exact h
  rw [h1]
  symm
  rw [decide_eq_false_iff_not]
  intro h2
  exact h (UInt8.toNat_inj.1 (by show b.toNat = 32; omega))
def Rd (s : ByteArray) (i b : Nat) (out : List ByteArray) : Prop := uY s = ((List.range s.size).drop i).all (chB s) ∧ out.length ≤ i ∧ (i ≤ s.size ∧ b ≤ i ∧ flds s = out ++ ofL (Lib.fieldsGo ((s.data.toList.drop b).take (i - b)) (s.data.toList.drop i)) ∨ i = s.size + 1 ∧ flds s = out)
theorem wZ (s : ByteArray) (hs : s.size ≤ 4300000) : FnC Tryz.prog 100 [os s] (rSF s) := by
 refine ent Tryz.func100 rfl Tryz.call100 rfl (fun C => ?_); simp only [go_sem, st0, Tryz.ntmps100]
 have hdl : s.data.toList.length = s.size := rfl
 by_cases h6 : (600 : Int) < (s.size : Int)
 ·have e : sfO s = false := by unfold sfO; simp; omega
  have e2 : sfL s = [] := by unfold sfL; rw [e]; rfl
  have q0 := @h6; have q1 := @decide_true; refine jN ?_
  exact aA ⟨⟨_, rfl, by simp only [go_sem, e, e2]⟩, by simp [aM]⟩
 have q0 := @h6; have q1 := @decide_false; refine jN ?_
 refine bE (α := Nat × Nat × List ByteArray) (fun x => [(4, .o (.s 0)), (5, oi (x.2.1 : Nat)), (6, oi (x.1 : Nat)), (7, .o .u)]) (fun x => [(0, .row 9 1 (x.2.2.map bD) true)]) (fun x => Rd s x.1 x.2.1 x.2.2) (fun x => s.size + 1 - x.1) (0, 0, []) (fun _ => ?_) ?_ ?_ (fun x hx => ?_)
 ·simp only [go_sem]
 ·simp only [go_sem]; simp
 ·exact ⟨by simp [uY], by simp, .inl ⟨by simp, by simp, by simp [flds, Lib.fields]⟩⟩
 obtain ⟨i, b, out⟩ := x
 obtain ⟨hq, hol, hx⟩ := hx
 simp only at hq hol hx
 simp only [go_sem]
 refine aJ ?_
 refine cnd rfl (fun h => ?_) (fun h => ?_)
 ·simp only [decide_eq_true_eq, Int.ofNat_le] at h
  obtain ⟨hi, hbi, hfl⟩ : i ≤ s.size ∧ b ≤ i ∧ flds s = out ++ ofL (Lib.fieldsGo ((s.data.toList.drop b).take (i - b)) (s.data.toList.drop i)) := by
   rcases hx with hx | hx
   ·exact hx
   ·omega
  have hl1 : out.length + 1 ≤ 140737488355328 := by omega
  have hl2 : (out.length + 1) * 16 ≤ 140737488355328 := by omega
  have hext : (s.extract b i).data.toList = (s.data.toList.drop b).take (i - b) := Lib.extract_data s b i
  have hone : ofL [(s.data.toList.drop b).take (i - b)] = [s.extract b i] := by
   apply b0Q; rw [a1p]; simp [hext]
  have hemp : b < i → ((s.data.toList.drop b).take (i - b)).isEmpty = false := fun hlt => by
   rw [List.isEmpty_eq_false_iff]
   intro e
   have := congrArg List.length e
   rw [List.length_take, List.length_drop] at this
   simp at this; omega
  have hnil : ¬ b < i → (s.data.toList.drop b).take (i - b) = [] := fun hlt => by
   have : i - b = 0 := by omega
   rw [this]; rfl
  by_cases hlt : i < s.size
  ·have hli : (i : Int) < (s.size : Int) := by omega
   have h' : i < (List.range s.size).length := by simpa using hlt
   have hd := List.drop_eq_getElem_cons h'
   rw [hd, List.all_cons, List.getElem_range] at hq
   have hb := pQ s i
   have hat : s.data.toList[i]? = some s.data.toList[i] := List.getElem?_eq_getElem (by omega)
   have hdr : s.data.toList.drop i = s.data.toList[i] :: s.data.toList.drop (i + 1) := List.drop_eq_getElem_cons (by omega)
   generalize s.data.toList[i] = c at *
   by_cases h1 : cZ s i < 32
   ·have ec : uY s = false := by rw [hq]; unfold chB inB; simp; omega
    have e : sfO s = false := by unfold sfO; rw [ec]; simp
    have e2 : sfL s = [] := by unfold sfL; rw [e]; rfl
    have q0 := @h; have q1 := @hlt; have q2 := @hli; have q3 := @h1; have q4 := @decide_true; refine sJ ?_
    exact aA ⟨⟨_, rfl, by simp only [go_sem, e, e2]⟩, by simp [aM]⟩
   by_cases h2 : 126 < cZ s i
   ·have ec : uY s = false := by rw [hq]; unfold chB inB; simp; omega
    have e : sfO s = false := by unfold sfO; rw [ec]; simp
    have e2 : sfL s = [] := by unfold sfL; rw [e]; rfl
    have q0 := @h; have q1 := @hlt; have q2 := @hli; have q3 := @h1; have q4 := @h2; have q5 := @decide_true; have q6 := @decide_false; refine a7J ?_
    exact aA ⟨⟨_, rfl, by simp only [go_sem, e, e2]⟩, by simp [aM]⟩
   have hc : chB s i = true := by unfold chB inB; simp; omega
   rw [hc, Bool.true_and] at hq
   have hsp := b3P hat hc
   by_cases h3 : cZ s i = 32
   ·rw [h3] at hsp
    by_cases h4 : b < i
    ·have h4i : (b : Int) < (i : Int) := by omega
     have hf2 : flds s = (out ++ [s.extract b i]) ++ ofL (Lib.fieldsGo [] (s.data.toList.drop (i + 1))) := by
      rw [hfl, hdr, Lib.fieldsGo_end _ _ _ (by simpa using hsp) (by have := hemp h4; rw [List.isEmpty_eq_false_iff] at this; exact this)]
      show out ++ ofL ([_] ++ _) = _
      unfold ofL at hone ⊢
      rw [List.map_append, hone, List.append_assoc]
     have qH := aI @h (aI @hlt (aI @hli (aI @h1 (aI @h2 (aI @h3 (aI @h4 (aI @h4i (aI @hl1 (aI @hl2 (aI @decide_true (aI @decide_false (aI @Bool.not_true @bI)))))))))))); repeat' (with_reducible first | refine nY ?_ | (refine mX ?_; try simp only [go_sem, qH]) | refine kD ?_ | refine rD ?_ | refine aO ?_ | fail)
     refine aH (i + 1, i + 1, out ++ [s.extract b i]) ?_ ?_ ?_
     ·simp only [go_sem, List.map_append]; simp [bD]
     ·exact ⟨hq, by simp; omega, .inl ⟨by simp only; omega, by simp only; omega, by simp only [Nat.sub_self, List.take_zero]; exact hf2⟩⟩
     ·simp only; omega
    ·have h4i : ¬ (b : Int) < (i : Int) := by omega
     have hf2 : flds s = out ++ ofL (Lib.fieldsGo [] (s.data.toList.drop (i + 1))) := by
      rw [hfl, hdr, hnil h4, Lib.fieldsGo_sp _ _ (by simpa using hsp)]
     have qH := aI @h (aI @hlt (aI @hli (aI @h1 (aI @h2 (aI @h3 (aI @h4 (aI @h4i (aI @decide_true (aI @decide_false (aI @Bool.not_true @bI)))))))))); repeat' (with_reducible first | refine nY ?_ | (refine mX ?_; try simp only [go_sem, qH]) | refine kD ?_ | refine rD ?_ | refine aO ?_ | fail)
     refine aH (i + 1, i + 1, out) ?_ ?_ ?_
     ·simp only [go_sem]; simp
     ·exact ⟨hq, by simp; omega, .inl ⟨by simp only; omega, by simp only; omega, by simp only [Nat.sub_self, List.take_zero]; exact hf2⟩⟩
     ·simp only; omega
   ·have hsp' : Lib.isSp c = false := by rw [hsp]; simp [h3]
    have hf2 : flds s = out ++ ofL (Lib.fieldsGo ((s.data.toList.drop b).take (i + 1 - b)) (s.data.toList.drop (i + 1))) := by
     rw [hfl, hdr, Lib.fieldsGo_more _ _ _ hsp', Lib.piece_more hbi hat]
    have q0 := @h; have q1 := @hlt; have q2 := @hli; have q3 := @h1; have q4 := @h2; have q5 := @h3; have q6 := @decide_true; have q7 := @decide_false; have q8 := @Bool.not_false; have q9 := @bI; refine nK ?_
    refine aH (i + 1, b, out) ?_ ?_ ?_
    ·simp only [go_sem]; simp
    ·exact ⟨hq, by simp; omega, .inl ⟨by simp only; omega, by simp only; omega, hf2⟩⟩
    ·simp only; omega
  ·have hli : ¬ (i : Int) < (s.size : Int) := by omega
   have hei : i = s.size := by omega
   have hdr : s.data.toList.drop i = [] := List.drop_of_length_le (by omega)
   have hq2 : uY s = ((List.range s.size).drop (i + 1)).all (chB s) := by
    rw [hq, List.drop_of_length_le (by simp; omega), List.drop_of_length_le (by simp; omega)]
   by_cases h4 : b < i
   ·have h4i : (b : Int) < (i : Int) := by omega
    have hf2 : flds s = out ++ [s.extract b i] := by
     rw [hfl, hdr, ← hone]
     unfold Lib.fieldsGo
     rw [hemp h4]; rfl
    have q0 := @h; have q1 := @hlt; have q2 := @hli; have q3 := @h4; have q4 := @h4i; have q5 := @hl1; have q6 := @hl2; have q7 := @decide_true; have q8 := @decide_false; have q9 := @bI; refine nK ?_
    refine aH (i + 1, i + 1, out ++ [s.extract b i]) ?_ ?_ ?_
    ·simp only [go_sem, List.map_append]; simp [bD]
    ·exact ⟨hq2, by simp; omega, .inr ⟨by simp only; omega, hf2⟩⟩
    ·simp only; omega
   ·have h4i : ¬ (b : Int) < (i : Int) := by omega
    have hf2 : flds s = out := by
     rw [hfl, hdr, hnil h4]
     simp [Lib.fieldsGo, ofL]
    have q0 := @h; have q1 := @hlt; have q2 := @hli; have q3 := @h4; have q4 := @h4i; have q5 := @decide_false; have q6 := @bI; refine a7J ?_
    refine aH (i + 1, i + 1, out) ?_ ?_ ?_
    ·simp only [go_sem]; simp
    ·exact ⟨hq2, by simp; omega, .inr ⟨by simp only; omega, hf2⟩⟩
    ·simp only; omega
 ·simp only [decide_eq_false_iff_not] at h
  have hfl : flds s = out := by
   rcases hx with hx | hx
   ·omega
   ·exact hx.2
  have hc : uY s = true := by rw [hq, List.drop_of_length_le (by simp; omega)]; rfl
  subst hfl
  by_cases h7 : (24 : Int) < ((flds s).length : Int)
  ·have e : sfO s = false := by unfold sfO; simp; omega
   have e2 : sfL s = [] := by unfold sfL; rw [e]; rfl
   have q0 := @h7; have q1 := @bI; have q2 := @decide_true; refine kZ ?_
   exact aA ⟨⟨_, rfl, by simp only [go_sem, e, e2]⟩, by simp [aM]⟩
  ·have e : sfO s = true := by unfold sfO; rw [hc]; simp; omega
   have e2 : sfL s = flds s := by unfold sfL; rw [e]; rfl
   have q0 := @h7; have q1 := @bI; have q2 := @decide_false; refine kZ ?_
   exact aA ⟨⟨_, rfl, by simp only [go_sem, e, e2]⟩, by simp [aM]⟩
end Go.Proofs.YtgpoopjfkplilaaGreatDoor
end
section
namespace Go.Sx
open Go Go.RowKit
structure DoneB (V : View) (w : World) (b ty : Nat) (res : SV) (ds' : List D) (y : Value) (w' : World) : Prop where
 grown : w.grownBy w' (some b)
 out : ∃ V' S l', V.le V' ∧ Mod V' w' ∧ (∀ n cs, V' n = some cs → V n = none → w.heap.size ≤ n ∧ Unf w' n) ∧ rSV V' w' res y S ∧ S.Nodup ∧ (∀ n ∈ S, w.heap.size ≤ n ∧ n < w'.heap.size) ∧ w'.heap[b]? = some (.cells (List.toArray l') ty (0, 0)) ∧ cL [] V' (ds'.map At.d) l'
structure FnB (P : Program) (f ty : Nat) (ds : List D) (args : List SV) {α : Type} (Q : α → Prop) (res : α → SV) (ds' : α → List D) : Prop where
 enters : ∀ aS w, (callFunc f aS).run P w = .ok (.enter f aS) w
 calls : ∀ V w b l vs, tabOK w [b] → Mod V w → V b = none → b < w.heap.size → w.heap[b]? = some (.cells (List.toArray l) ty (0, 0)) → cL [] V (ds.map At.d) l → rZ V args vs →
  Calls P f (Value.pointer (some ⟨b, 0, none⟩) :: vs).toArray w fun e w' => ∃ y a, e = .returned y ∧ Q a ∧ DoneB V w b ty (res a) (ds' a) y w'
section
variable {E : Env} {C : Ctx} {g : List Gh} {V : View} {st : St} {a : Act} {w : World}
theorem a9n (hr : Rel C g V st a w) : ∀ {aS bs : List At}, gN st.h aS bs → ∀ b ∈ (oO g aS bs).flatten, ∃ (id : Nat) (x : Gh) (ty sz : Nat) (rows : List (List D)) (lin : Bool), st.h[id]? = some (.row ty sz rows lin) ∧ g[id]? = some x ∧ b ∈ aV x (.row ty sz rows lin)
 | [], [], _, b, hb => by simp [oO] at hb
 | [], _ :: _, h, _, _ => by simp [gN] at h
 | _ :: _, [], h, _, _ => by simp [gN] at h
 | x :: aS, r :: bs, h, b, hb => by
  have hx : sI st.h x r := (mJ h).2 0 x r rfl rfl
  have ht : gN st.h aS bs := by
   cases aS with
   | nil => cases bs with
    | nil => trivial
    | cons => simp [gN] at h
   | cons a2 aS => cases bs with
    | nil => simp [gN] at h
    | cons b2 bs => exact h.2
  simp only [oO, List.flatten_cons, List.mem_append] at hb
  rcases hb with hb | hb
  ·cases x with
   | s id => cases r with
    | w ty sz rows =>
     simp only [goS] at hb
     cases hg : g[id]? with
     | none => simp [hg] at hb
     | some gx =>
      simp only [hg] at hb
      simp only [sI] at hx
      split at hx
      ·rename_i ty' sz' rows' lin e
       obtain ⟨rfl, rfl, rfl, rfl⟩ := hx
       exact ⟨id, gx, _, _, _, _, aG e (by simp), hg, by simpa [aV] using hb⟩
      ·exact hx.elim
    | m ty sz rows =>
     simp only [goS] at hb
     cases hg : g[id]? with
     | none => simp [hg] at hb
     | some gx =>
      simp only [hg] at hb
      simp only [sI] at hx
      split at hx
      ·rename_i ty' sz' rows' lin e
       obtain ⟨rfl, rfl, rfl⟩ := hx
       exact ⟨id, gx, _, _, _, _, aG e (by simp), hg, by simp only [aV]; exact List.mem_append.2 (.inl hb)⟩
      ·exact hx.elim
    | _ => simp [goS] at hb
   | _ => simp [goS] at hb
  ·exact a9n hr ht b hb
theorem a3Z (hT : TyOK E.P E.T) {pb ty : Nat} {ds' : List D} (hX : C.X = [pb]) (hr : Rel C g V st a w) {fn : Func} {rs : List ResultVar} (hf : fn.results = rs.toArray) {res : SV} (h : RetOK E st rs res) (h0 : dO st.h 0 = .pin pb ty ds') :
    ∃ y, (results fn a.tmps).run E.P w = .ok y w ∧ DoneB C.V0 C.w0 pb ty res ds' y w := by
 have hi0 := aG h0 (by simp)
 obtain ⟨x0, hx0⟩ : ∃ x0, g[0]? = some x0 := ⟨_, List.getElem?_eq_getElem (by rw [hr.hp.glen]; exact (List.getElem?_eq_some_iff.1 hi0).1)⟩
 obtain ⟨p1, l', p2, p3⟩ := hr.hp.hb 0 _ x0 hi0 hx0
 have pr : V pb = none := hr.hp.rt 0 _ x0 hi0 hx0 pb (by simp [aW, p1])
 obtain ⟨⟨l, h1, h2, h3, h4⟩, hone⟩ := h
 obtain ⟨vs, ls, f1, f2, f3, f4, f5⟩ := pG hT hr h1
 have f1' : (rs.mapM (rvM a)).run E.P w = .ok vs w := by
  rw [← f1]
  congr 2
 refine ⟨_, kV hf f1', ⟨hr.fr.os, hr.fr.tape, hr.fr.output, hr.fr.size, fun k hk hne => hr.fr.block k hk (by rw [hX]; simpa using fun e => hne (by rw [e]))⟩, V, (oO g (l.flatMap (·.2)) ((resL res).flatMap (·.2))).flatten, l', hr.vw.le, hr.mod, fun b cs q1 q2 => ?_, ⟨ls.flatten, ?_, ?_⟩, pF hr h3 h4, fun b hb => ?_, p2, p3⟩
 ·have := hr.vw.fresh b cs q1 q2
  rw [hX] at this
  refine ⟨?_, hr.vw.unf b cs q1 q2⟩
  rcases this with h | h
  ·exact h
  ·simp only [List.mem_singleton] at h
   subst h
   rw [pr] at q1; cases q1
 ·
  have hlen : l.length = (resL res).length := by simpa using congrArg List.length h2
  have hget : ∀ (k : Nat) (b : Bool) (c : List At), (resL res)[k]? = some (b, c) → ∃ c', l[k]? = some (b, c') ∧ c'.length = c.length := fun k b c hk => by
   have := congrArg (fun z => z[k]?) h2
   simp only [List.getElem?_map, hk, Option.map_some] at this
   cases hl : l[k]? with
   | none => rw [hl] at this; cases this
   | some x =>
    rw [hl] at this
    simp only [Option.map_some, Option.some.injEq, Prod.mk.injEq] at this
    exact ⟨x.2, by rw [← this.1], this.2⟩
  have one : ∀ (b : Bool) (c : List At), resL res = [(b, c)] → ∃ v m, vs = [v] ∧ ls = [m] ∧ (if b then v = .agg m.toArray else m = [v]) := fun b c e => by
   obtain ⟨c', hc', _⟩ := hget 0 b c (by rw [e]; rfl)
   rw [e] at hlen
   match vs, f2.trans hlen, ls, f3.trans hlen with
   | [v], _, [m], _ => exact ⟨v, m, rfl, rfl, (f4 0 b c' m v hc' rfl rfl).1⟩
  cases res with
  | o x =>
   obtain ⟨v, m, rfl, rfl, e⟩ := one false [x] rfl
   simpa [shapeOf] using e
  | g cs =>
   obtain ⟨v, m, rfl, rfl, e⟩ := one true cs rfl
   simpa [shapeOf] using e
  | t cs =>
   refine ⟨ls, f3.trans hlen, rfl, fun k b c m hk hm => ?_, vs, ?_, f2.trans hlen, fun k b c m v hk hm hv => ?_⟩
   ·obtain ⟨c', hc', e⟩ := hget k b c hk
    have hv : k < vs.length := by rw [f2, ← f3]; exact (List.getElem?_eq_some_iff.1 hm).1
    have := (f4 k b c' m _ hc' hm (List.getElem?_eq_getElem hv)).2.1
    omega
   ·have hne : vs.length ≠ 1 := by rw [f2, hlen]; exact hone
    match vs, hne with
    | [], _ => rfl
    | v :: v' :: r, _ => rfl
   ·obtain ⟨c', hc', e⟩ := hget k b c hk
    exact (f4 k b c' m v hc' hm hv).1
 ·have hl := mJ h3
  refine ⟨oO g (l.flatMap (·.2)) ((resL res).flatMap (·.2)), ?_, ?_, rfl, fun k x y s e1 e2 e3 => ?_⟩
  ·rw [f5.1, hl.1, pI]
  ·rw [a1v g hl.1, hl.1, pI]
  ·rw [pI] at e1
   have hk : k < (l.flatMap (·.2)).length := by rw [hl.1]; exact (List.getElem?_eq_some_iff.1 e1).1
   have e0 : (l.flatMap (·.2))[k]? = some ((l.flatMap (·.2))[k]) := List.getElem?_eq_getElem hk
   rw [a1w g e0 e1] at e3
   cases e3
   exact a8r hr (hl.2 k _ x e0 e1) (f5.2 k _ y e0 e2)
 ·obtain ⟨id, x, rty, rsz, rr, rl, e1, e2, e3⟩ := a9n hr h3 b hb
  have := hr.hp.lo id _ x e1 e2 b e3
  refine ⟨?_, this.2⟩
  rw [hX] at this
  rcases this.1 with h | h
  ·exact h
  ·simp only [List.mem_singleton] at h
   subst h
   have hne : id ≠ 0 := fun e => by rw [e, hi0] at e1; cases e1
   exact (hr.hp.dj id 0 _ _ x x0 hne e1 e2 hi0 hx0 b e3 (by simp [aV, p1])).elim
end
def b7q (E : Env) (rs : List ResultVar) (b ty : Nat) {α : Type} (Q : α → Prop) (res : α → SV) (ds' : α → List D) : Ex → St → Prop
 | .exit _, _ => False
 | _, st => ∃ st' a, Sees E.C st st' ∧ RetOK E st' rs (res a) ∧ Q a ∧ dO st'.h 0 = .pin b ty (ds' a)
def stB (b ty : Nat) (ds : List D) (args : List SV) (n : Nat) : St := ⟨.o (.p 0 0) :: (args ++ List.replicate (n - 1 - args.length) (.t [])), [.pin b ty ds]⟩
theorem FnB.of_wp {P : Program} {T : Nat → Ty} {eqk : Nat → List Nat} (hT : TyOK P T) {f : Nat} {fn : Func} {c : Code} {rs : List ResultVar} {ty : Nat} {ds : List D} {args : List SV} {α : Type} {Q : α → Prop} {res : α → SV} {ds' : α → List D}
    (hf : P.funcs[f]? = some fn) (hb : fn.body = some c) (hcall : ∀ aS w, (callFunc f aS).run P w = .ok (.enter f aS) w) (hres : fn.results = rs.toArray)
    (h : ∀ (C : Ctx) (b : Nat), C.X = [b] → WP P C c (bP P C [] (b7q ⟨P, T, C, eqk⟩ rs b ty Q res ds')) (stB b ty ds args fn.ntmps)) : FnB P f ty ds args Q res ds' := by
 refine ⟨hcall, fun V w b l vs htab hm hVb hlt hheap hcl ha => ?_⟩
 let C : Ctx := ⟨w, [b], V, htab⟩
 refine calls_of_wp hf hb ?_
 let x : Gh := ⟨some b, undef, [], []⟩
 have hr : Rel C [x] V (stB b ty ds args fn.ntmps) { tmps := (Value.pointer (some ⟨b, 0, none⟩) :: vs).toArray ++ Array.replicate (fn.ntmps - (Value.pointer (some ⟨b, 0, none⟩) :: vs).toArray.size) undef, defers := [] } w := by
  refine ⟨⟨by simp [stB, ha.1]; omega, fun i s y h1 h2 => ?_, rfl⟩, ⟨rfl, ?_, ?_, ?_, ?_, ?_⟩, hm,
   ⟨rfl, rfl, rfl, Nat.le_refl _, fun _ _ _ => rfl⟩, Vw.init hm (fun n hn => by rw [List.mem_singleton.1 hn]; exact hVb)⟩
  ·match i with
   | 0 =>
    simp [stB] at h1
    rw [Array.getElem?_append_left (by simp)] at h2
    simp at h2
    subst h1; subst h2
    exact ⟨x, b, rfl, rfl, rfl⟩
   | i + 1 =>
    simp only [stB, List.getElem?_cons_succ] at h1
    have h2' : (vs.toArray ++ Array.replicate (fn.ntmps - (vs.length + 1)) undef)[i]? = some y := by
     simp only [List.size_toArray, List.length_cons] at h2
     rw [← h2]
     rw [Array.getElem?_append, Array.getElem?_append]
     simp
    rw [List.getElem?_append] at h1
    rw [Array.getElem?_append] at h2'
    simp only [List.size_toArray, ha.1] at h2'
    split at h1
    ·rw [if_pos ‹_›] at h2'
     exact (ha.2 i s y h1 (by simpa using h2')).mono (fun j z hz => by simp at hz) (View.le.refl V)
    ·rw [if_neg ‹_›] at h2'
     rw [List.getElem?_replicate] at h1
     rw [Array.getElem?_replicate] at h2'
     split at h1
     ·split at h2'
      ·cases h1; cases h2'; exact gG _ _
      ·cases h2'
     ·cases h1
  all_goals
   have key : ∀ (i : Nat) (c : HB) (z : Gh), (stB b ty ds args fn.ntmps).h[i]? = some c → [x][i]? = some z → i = 0 ∧ c = .pin b ty ds ∧ z = x := fun i c z h1 h2 => by
    match i with
    | 0 => simp [stB] at h1 h2; exact ⟨rfl, h1.symm, h2.symm⟩
    | i + 1 => simp at h2
  ·intro i c z h1 h2
   obtain ⟨rfl, rfl, rfl⟩ := key i c z h1 h2
   exact ⟨rfl, l, hheap, hcl⟩
  ·intro i c z h1 h2
   obtain ⟨rfl, rfl, rfl⟩ := key i c z h1 h2
   simp [aV, x]
  ·intro i j c c' z z' hij h1 h2 h3 h4
   obtain ⟨rfl, _, _⟩ := key i c z h1 h2
   obtain ⟨rfl, _, _⟩ := key j c' z' h3 h4
   exact absurd rfl hij
  ·intro i c z h1 h2 n hn
   obtain ⟨rfl, rfl, rfl⟩ := key i c z h1 h2
   simp [aV, x] at hn
   subst hn
   exact ⟨.inr (by simp [C]), hlt⟩
  ·intro i c z h1 h2 n hn
   obtain ⟨rfl, rfl, rfl⟩ := key i c z h1 h2
   simp [aW, x] at hn
   subst hn
   exact hVb
 refine wp_mono (h C b rfl [x] V _ w hr) fun e a' w' q => ?_
 cases e with
 | normal =>
  obtain ⟨g, V', st', hr', s, a0, hs, hret, hq, hp⟩ := q
  obtain ⟨g2, V2, hr2⟩ := hs g V' a' w' hr'
  obtain ⟨y, hy, hd⟩ := a3Z (E := ⟨P, T, C, eqk⟩) hT rfl hr2 hres hret hp
  exact ⟨hr'.sl.defers, y, hy, y, a0, rfl, hq, hd⟩
 | ret =>
  obtain ⟨g, V', st', hr', s, a0, hs, hret, hq, hp⟩ := q
  obtain ⟨g2, V2, hr2⟩ := hs g V' a' w' hr'
  obtain ⟨y, hy, hd⟩ := a3Z (E := ⟨P, T, C, eqk⟩) hT rfl hr2 hres hret hp
  exact ⟨hr'.sl.defers, y, hy, y, a0, rfl, hq, hd⟩
 | exit id => obtain ⟨g, V', st', hr', q⟩ := q; exact q.elim
 | goto l => exact q.elim
 | panic ch => exact q.elim
 | outgrown => exact q.elim
def b6r (ty : Nat) (ds : List D) : HB → Prop
 | .box ty' cs => ty' = ty ∧ cs = ds.map At.d
 | .pin _ ty' ds0 => ty' = ty ∧ ds0 = ds
 | _ => False
def reD (ds' : List D) : HB → HB
 | .box ty _ => .box ty (ds'.map At.d)
 | .pin b ty _ => .pin b ty ds'
 | b => b
theorem b3S {g : List Gh} {V : View} {w : World} {x : Gh} {B : HB} {ty : Nat} {ds : List D} (h : HBok g V w x B) (hB : b6r ty ds B) : ∃ b l, x.blk = some b ∧ aV x B = [b] ∧ aW x B = [b] ∧ w.heap[b]? = some (.cells (List.toArray l) ty (0, 0)) ∧ cL [] V (ds.map At.d) l ∧
    ∀ (V' : View) (w' : World) (ds' : List D) (l' : List Value), w'.heap[b]? = some (.cells (List.toArray l') ty (0, 0)) → cL [] V' (ds'.map At.d) l' → (∀ g', HBok g' V' w' x (reD ds' B)) ∧ aV x (reD ds' B) = [b] ∧ aW x (reD ds' B) = [b] := by
 cases B with
 | box ty' cs =>
  obtain ⟨rfl, rfl⟩ := hB
  obtain ⟨b, l, h1, h2, h3⟩ := h
  exact ⟨b, l, h1, by simp [aV, h1], by simp [aW, h1], h2, cLd h3, fun V' w' ds' l' e1 e2 => ⟨fun g' => ⟨b, l', h1, e1, cLd e2⟩, by simp [reD, aV, h1], by simp [reD, aW, h1]⟩⟩
 | pin pb ty' ds0 =>
  obtain ⟨rfl, rfl⟩ := hB
  obtain ⟨h1, l, h2, h3⟩ := h
  exact ⟨pb, l, h1, by simp [aV, h1], by simp [aW, h1], h2, h3, fun V' w' ds' l' e1 e2 => ⟨fun g' => ⟨h1, l', e1, e2⟩, by simp [reD, aV, h1], by simp [reD, aW, h1]⟩⟩
 | _ => exact hB.elim
theorem CallS.block {E : Env} {f ty id : Nat} {ds : List D} {args' rest : List SV} {α : Type} {Q : α → Prop} {res : α → SV} {ds' : α → List D} {st : St} {K : St → SV → Prop} (h : FnB E.P f ty ds args' Q res ds')
    (hid : b6r ty ds (dO st.h id)) (he : rest.map (jF st.h) = args') (hfree : args'.all dQ = true)
    (k : ∀ a, Q a → K ⟨st.t, setH st.h id (reD (ds' a) (dO st.h id)) ++ adH (res a).all⟩ (adS (setH st.h id (reD (ds' a) (dO st.h id))).length (res a))) :
    CallS E f (.o (.p id 0) :: rest) st K := by
 refine ⟨h.enters, fun g V a w vs hr hlen hargs => ?_⟩
 have hi : st.h[id]? = some (dO st.h id) := aG rfl (fun e => by rw [e] at hid; exact hid)
 match vs, hlen, hargs with
 | y :: vs, hlen, hargs =>
  obtain ⟨x, b0, hx, hxb, rfl⟩ := hargs 0 _ y rfl rfl
  have hok := hr.hp.hb id _ x hi hx
  obtain ⟨b, l, q1, q2, q3, q4, q5, q6⟩ := b3S hok hid
  have e0 : b0 = b := by rw [hxb] at q1; exact Option.some.inj q1
  subst e0
  have hVb : V b0 = none := hr.hp.rt id _ x hi hx b0 (by rw [q3]; simp)
  have hlo := hr.hp.lo id _ x hi hx b0 (by rw [q2]; simp)
  have hc : rZ V args' vs := by
   subst he
   refine ⟨by simpa using hlen, fun i s y h1 h2 => ?_⟩
   have hs := List.all_eq_true.1 hfree s (List.mem_of_getElem? h1)
   rw [List.getElem?_map] at h1
   cases hk : rest[i]? with
   | none => rw [hk] at h1; cases h1
   | some s0 =>
    rw [hk] at h1
    cases h1
    exact pJ (sZ hr (hargs (i + 1) s0 y (by simpa using hk) (by simpa using h2))) hs
  refine (h.calls V w b0 l vs (hr.fr.tab fun k hk => by rw [List.mem_singleton.1 hk]; exact hlo.1) hr.mod hVb hlo.2 q4 q5 hc).mono ?_
  rintro e w' ⟨y, a0, rfl, hQ, hgrown, V', S, l', hv, hm, hnew, ⟨lr, hshape, Ss, r1, r2, r3, r4⟩, hnd, hblk, hheap, hcl'⟩
  have hV'b : V' b0 = none := by
   cases hc : V' b0 with
   | none => rfl
   | some cs => have := (hnew b0 cs hc hVb).1; omega
  have hsz1 : (w'.setRow b0 l.toArray).heap.size = w'.heap.size := by simp [World.setRow]
  have hbel : Below w.heap.size w (w'.setRow b0 l.toArray) := ⟨hgrown.os, hgrown.tape, hgrown.output, by rw [hsz1]; exact hgrown.size, fun n hn => by
   by_cases e : n = b0
   ·subst e
    rw [setRow_heap w' n l'.toArray l.toArray ty (0, 0) hheap, q4]
   ·rw [setRow_other w' b0 n _ e]
    exact hgrown.block n hn fun h => e (Option.some.inj h)⟩
  have hm1 : Mod V' (w'.setRow b0 l.toArray) := fun n cs hn => by
   obtain ⟨c, ty', fz, e1, e2⟩ := hm n cs hn
   have hne : n ≠ b0 := fun e => by rw [e, hV'b] at hn; cases hn
   exact ⟨c, ty', fz, by rw [setRow_other w' b0 n _ hne]; exact e1, e2⟩
  have hr1 : Rel E.C g V' st a (w'.setRow b0 l.toArray) := hr.later hv hm1 hbel (fun n cs h1 h2 => by
   have := hnew n cs h1 h2
   have hne : n ≠ b0 := fun e => by rw [e, hV'b] at h1; cases h1
   obtain ⟨c, ty', e⟩ := this.2
   exact ⟨this.1, c, ty', by rw [setRow_other w' b0 n _ hne]; exact e⟩)
  obtain ⟨u1, u2, u3⟩ := q6 V' w' (ds' a0) l' hheap hcl'
  have hr2 := hr1.turnRow id (b' := reD (ds' a0) (dO st.h id)) (x' := x) hi hx (w' := w') rfl rfl rfl u1 (by rw [u2]; simp) (fun n hn => .inl (by rw [u2] at hn; rw [q2]; exact hn))
   (fun n hn => by rw [u3] at hn; simp only [List.mem_singleton] at hn; subst hn; exact hV'b)
   ⟨rfl, rfl, rfl, by rw [hsz1]; exact Nat.le_refl _, fun n hn hne => (setRow_other w' b0 n _ (fun e => hne (by rw [hxb, e]))).symm⟩ (fun n hn => by rw [q3]; rw [hxb] at hn; cases hn; simp)
  rw [← bQ] at hr2
  have hgx : g.set id x = g := by
   apply List.ext_getElem?
   intro i
   rw [List.getElem?_set]
   split
   ·rename_i e
    subst e
    split
    ·exact hx.symm
    ·rename_i hn
     rw [List.getElem?_eq_none (by omega)]
   ·rfl
  rw [hgx] at hr2
  subst r3
  obtain ⟨g', h1, h2, h3⟩ := a1z (cs := (res a0).all) hr2 r1 r2 r4 hnd (fun n hn => ⟨.inl (Nat.le_trans hr.fr.size (hblk n hn).1), (hblk n hn).2, fun i hb' z e1 e2 hm' => by
   have hlt : n < w.heap.size := by
    simp only [bQ, List.getElem?_set] at e1
    split at e1
    ·rename_i e
     subst e
     split at e1
     ·cases e1
      rw [hx] at e2
      cases e2
      rw [u2] at hm'
      simp only [List.mem_singleton] at hm'
      subst hm'
      exact hlo.2
     ·cases e1
    ·exact (hr.hp.lo i hb' z e1 e2 n hm').2
   have := (hblk n hn).1
   omega⟩)
  refine ⟨y, g', V', _, _, rfl, h1, ?_, k a0 hQ⟩
  generalize setH st.h id (reD (ds' a0) (dO st.h id)) = hh at *
  generalize res a0 = res at *
  cases res with
  | o x =>
   have hl : lr = [y] := hshape
   subst hl
   simp only [SV.all] at h3
   simp only [adS]
   have hlen1 : (adA hh.length [x]).length = 1 := qL _ _
   match he' : adA hh.length [x], hlen1 with
   | [z], _ =>
    rw [he'] at h3
    exact h3.2 0 z y rfl rfl
  | g cs => exact ⟨lr, hshape, h3⟩
  | t cs =>
   obtain ⟨ls, e1, e2, e3, ys, e4, e5, e6⟩ := hshape
   subst e2
   refine ⟨ys, e4, by rw [e5, mE], fun i b c v hi hv' => ?_⟩
   have hlt : i < ls.length := by rw [e1, ← mE hh.length cs]; exact (List.getElem?_eq_some_iff.1 hi).1
   have hm' : ls[i]? = some ls[i] := List.getElem?_eq_getElem hlt
   obtain ⟨⟨c0, hc0⟩, hcc⟩ := xW hh.length cs ls e1 e3 h3 i b c _ hi hm'
   have := e6 i b c0 _ v hc0 hm' hv'
   cases b with
   | true => simp only [if_true] at this ⊢; exact ⟨_, this, hcc⟩
   | false => simp only [Bool.false_eq_true, if_false] at this ⊢; rw [← this]; exact hcc
structure FnN (P : Program) (f ty : Nat) (args : List SV) {α : Type} (Q : α → Prop) (ds' : α → List D) : Prop where
 enters : ∀ aS w, (callFunc f aS).run P w = .ok (.enter f aS) w
 calls : ∀ V w vs, tabOK w [] → Mod V w → rZ V args vs → Calls P f vs.toArray w fun e w' => ∃ a b l V', e = .returned (.pointer (some ⟨b, 0, none⟩)) ∧ Q a ∧ V.le V' ∧ Mod V' w' ∧ (∀ n cs, V' n = some cs → V n = none → w.heap.size ≤ n ∧ Unf w' n) ∧ w.heap.size ≤ b ∧ b < w'.heap.size ∧ V' b = none ∧ w'.heap[b]? = some (.cells (List.toArray l) ty (0, 0)) ∧ cL [] V' ((ds' a).map At.d) l ∧ Below w.heap.size w w'
def b7r (E : Env) (rs : List ResultVar) (ty : Nat) {α : Type} (Q : α → Prop) (ds' : α → List D) : Ex → St → Prop
 | .exit _, _ => False
 | _, st => ∃ a id, Q a ∧ retVs E st rs = some [(false, [.p id 0])] ∧ dO st.h id = .box ty ((ds' a).map At.d)
theorem FnN.of_wp {P : Program} {T : Nat → Ty} {eqk : Nat → List Nat} (hT : TyOK P T) {f : Nat} {fn : Func} {c : Code} {rs : List ResultVar} {ty : Nat} {args : List SV} {α : Type} {Q : α → Prop} {ds' : α → List D}
    (hf : P.funcs[f]? = some fn) (hb : fn.body = some c) (hcall : ∀ aS w, (callFunc f aS).run P w = .ok (.enter f aS) w) (hres : fn.results = rs.toArray)
    (h : ∀ C : Ctx, C.X = [] → WP P C c (bP P C [] (b7r ⟨P, T, C, eqk⟩ rs ty Q ds')) (st0 args fn.ntmps)) : FnN P f ty args Q ds' := by
 refine ⟨hcall, fun V w vs htab hm ha => ?_⟩
 let C : Ctx := ⟨w, [], V, htab⟩
 refine calls_of_wp hf hb ?_
 have hr : Rel C [] V (st0 args fn.ntmps) { tmps := vs.toArray ++ Array.replicate (fn.ntmps - vs.toArray.size) undef, defers := [] } w := by
  refine ⟨⟨by simp [st0, ha.1], fun i s y h1 h2 => ?_, rfl⟩, ⟨rfl, fun i b x h => by simp [st0] at h, fun i b x h => by simp [st0] at h, fun i j b b' x x' _ h => by simp [st0] at h, fun i b x h => by simp [st0] at h, fun i b x h => by simp [st0] at h⟩, hm,
   ⟨rfl, rfl, rfl, Nat.le_refl _, fun _ _ _ => rfl⟩, Vw.init hm (fun n hn => by cases hn)⟩
  simp only [st0] at h1
  rw [List.getElem?_append] at h1
  rw [Array.getElem?_append] at h2
  simp only [List.size_toArray, ha.1] at h2
  split at h1
  ·rw [if_pos ‹_›] at h2
   exact ha.2 i s y h1 (by simpa using h2)
  ·rw [if_neg ‹_›] at h2
   rw [List.getElem?_replicate] at h1
   rw [Array.getElem?_replicate] at h2
   split at h1
   ·rw [if_pos ‹_›] at h2
    cases h1; cases h2; exact gG _ _
   ·cases h1
 refine wp_mono (h C rfl [] V _ w hr) fun e a' w' q => ?_
 have fin : ∀ (g : List Gh) (V' : View) (st : St), Rel C g V' st a' w' → (∃ a id, Q a ∧ retVs ⟨P, T, C, eqk⟩ st rs = some [(false, [.p id 0])] ∧ dO st.h id = .box ty ((ds' a).map At.d)) →
     ∃ y, (results fn a'.tmps).run P w' = .ok y w' ∧ ∃ a b l V', Ending.returned y = .returned (.pointer (some ⟨b, 0, none⟩)) ∧ Q a ∧ V.le V' ∧ Mod V' w' ∧ (∀ n cs, V' n = some cs → V n = none → w.heap.size ≤ n ∧ Unf w' n) ∧ w.heap.size ≤ b ∧ b < w'.heap.size ∧ V' b = none ∧ w'.heap[b]? = some (.cells (List.toArray l) ty (0, 0)) ∧ cL [] V' ((ds' a).map At.d) l ∧ Below w.heap.size w w' := by
  rintro g V' st hr' ⟨a, id, hq, h1, h2⟩
  obtain ⟨vs', ls, f1, f2, f3, f4, f5⟩ := pG (E := ⟨P, T, C, eqk⟩) hT hr' h1
  have f1' : (rs.mapM (rvM a')).run P w' = .ok vs' w' := by
   rw [← f1]
   congr 2
  match vs', ls, f2, f3 with
  | [v], [m], _, _ =>
   have hv := f4 0 false [.p id 0] m v rfl rfl rfl
   simp only [Bool.false_eq_true, if_false] at hv
   obtain ⟨hv1, hv2⟩ := hv
   have hv2 := hv2
   subst hv1
   have hp := f5.2 0 (.p id 0) v rfl rfl
   obtain ⟨x, b, hx, hxb, rfl⟩ := hp
   have hi := aG h2 (by simp)
   obtain ⟨b', l, e1, e2, e3⟩ := hr'.hp.hb id _ x hi hx
   have e0 : b = b' := by rw [hxb] at e1; exact Option.some.inj e1
   subst e0
   have hlo := hr'.hp.lo id _ x hi hx b (by simp [aV, hxb])
   have hrt := hr'.hp.rt id _ x hi hx b (by simp [aW, hxb])
   refine ⟨_, kV hres f1', a, b, l, V', rfl, hq, hr'.vw.le, hr'.mod, fun n cs q1 q2 => ⟨by have := hr'.vw.fresh n cs q1 q2; simpa [C] using this, hr'.vw.unf n cs q1 q2⟩, by have := hlo.1; simpa [C] using this, hlo.2, hrt, e2, cLd e3, ⟨hr'.fr.os, hr'.fr.tape, hr'.fr.output, hr'.fr.size, fun k hk => hr'.fr.block k hk (by simp [C])⟩⟩
 cases e with
 | normal =>
  obtain ⟨g, V', st', hr', hret⟩ := q
  obtain ⟨y, hy, hd⟩ := fin g V' st' hr' hret
  exact ⟨hr'.sl.defers, y, hy, hd⟩
 | ret =>
  obtain ⟨g, V', st', hr', hret⟩ := q
  obtain ⟨y, hy, hd⟩ := fin g V' st' hr' hret
  exact ⟨hr'.sl.defers, y, hy, hd⟩
 | exit id => obtain ⟨g, V', st', hr', q⟩ := q; exact q.elim
 | goto l => exact q.elim
 | panic ch => exact q.elim
 | outgrown => exact q.elim
structure FnX (P : Program) (f : Nat) (args : List SV) {α : Type} (Q : α → Prop) (res : α → SV) : Prop where
 enters : ∀ aS w, (callFunc f aS).run P w = .ok (.enter f aS) w
 calls : ∀ V w vs, tabOK w [] → Mod V w → rZ V args vs → Calls P f vs.toArray w fun e w' => ∃ y a, e = .returned y ∧ Q a ∧ Done V w (res a) y w'
def b7s (E : Env) (rs : List ResultVar) {α : Type} (Q : α → Prop) (res : α → SV) : Ex → St → Prop
 | .exit _, _ => False
 | _, st => ∃ st' a, Sees E.C st st' ∧ RetOK E st' rs (res a) ∧ Q a
theorem FnX.of_wp {P : Program} {T : Nat → Ty} {eqk : Nat → List Nat} (hT : TyOK P T) {f : Nat} {fn : Func} {c : Code} {rs : List ResultVar} {args : List SV} {α : Type} {Q : α → Prop} {res : α → SV}
    (hf : P.funcs[f]? = some fn) (hb : fn.body = some c) (hcall : ∀ aS w, (callFunc f aS).run P w = .ok (.enter f aS) w) (hres : fn.results = rs.toArray)
    (h : ∀ C : Ctx, C.X = [] → WP P C c (bP P C [] (b7s ⟨P, T, C, eqk⟩ rs Q res)) (st0 args fn.ntmps)) : FnX P f args Q res := by
 refine ⟨hcall, fun V w vs htab hm ha => ?_⟩
 let C : Ctx := ⟨w, [], V, htab⟩
 refine calls_of_wp hf hb ?_
 have hr : Rel C [] V (st0 args fn.ntmps) { tmps := vs.toArray ++ Array.replicate (fn.ntmps - vs.toArray.size) undef, defers := [] } w := by
  refine ⟨⟨by simp [st0, ha.1], fun i s y h1 h2 => ?_, rfl⟩, ⟨rfl, fun i b x h => by simp [st0] at h, fun i b x h => by simp [st0] at h, fun i j b b' x x' _ h => by simp [st0] at h, fun i b x h => by simp [st0] at h, fun i b x h => by simp [st0] at h⟩, hm,
   ⟨rfl, rfl, rfl, Nat.le_refl _, fun _ _ _ => rfl⟩, Vw.init hm (fun n hn => by cases hn)⟩
  simp only [st0] at h1
  rw [List.getElem?_append] at h1
  rw [Array.getElem?_append] at h2
  simp only [List.size_toArray, ha.1] at h2
  split at h1
  ·rw [if_pos ‹_›] at h2
   exact ha.2 i s y h1 (by simpa using h2)
  ·rw [if_neg ‹_›] at h2
   rw [List.getElem?_replicate] at h1
   rw [Array.getElem?_replicate] at h2
   split at h1
   ·rw [if_pos ‹_›] at h2
    cases h1; cases h2; exact gG _ _
   ·cases h1
 refine wp_mono (h C rfl [] V _ w hr) fun e a' w' q => ?_
 cases e with
 | normal =>
  obtain ⟨g, V', st', hr', s, a0, hs, hret, hq⟩ := q
  obtain ⟨g2, V2, hr2⟩ := hs g V' a' w' hr'
  obtain ⟨y, hy, hd⟩ := xV (E := ⟨P, T, C, eqk⟩) hT rfl hr2 hres hret
  exact ⟨hr'.sl.defers, y, hy, y, a0, rfl, hq, hd⟩
 | ret =>
  obtain ⟨g, V', st', hr', s, a0, hs, hret, hq⟩ := q
  obtain ⟨g2, V2, hr2⟩ := hs g V' a' w' hr'
  obtain ⟨y, hy, hd⟩ := xV (E := ⟨P, T, C, eqk⟩) hT rfl hr2 hres hret
  exact ⟨hr'.sl.defers, y, hy, y, a0, rfl, hq, hd⟩
 | exit id => obtain ⟨g, V', st', hr', q⟩ := q; exact q.elim
 | goto l => exact q.elim
 | panic ch => exact q.elim
 | outgrown => exact q.elim
end Go.Sx
end
