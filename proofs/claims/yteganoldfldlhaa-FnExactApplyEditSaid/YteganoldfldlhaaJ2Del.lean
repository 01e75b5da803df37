/-
  slices.DeleteFunc at structures: the walk.
-/
import Derived.Test.YteganoldfldlhaaJ1Del
import Derived.Test.YteganoldfldlhaaH2
import Derived.Shelf.RegionOpenPlain
import Derived.WalkKit
import Derived.Deep.LoopGhost
import Derived.Deep.Draws
import Derived.Lib.Walk
import Derived.Lib.SliceRun
import Derived.Shelf.SlicesE.Kit
import Derived.Shelf.SlicesE.DeleteFunc
set_option linter.all false
namespace Go.Proofs.Yteganoldfldlhaa
open Go Go.Sx Go.RowKit Go.Proofs Go.Lib


set_option maxHeartbeats 4000000 in
set_option maxRecDepth 1000000 in
theorem delAttr_walk (b cap : Nat) (xs : List (List Value × Bool)) (w : World) (g : Nat) (lb : Array Value) (hR : RowAt w w b 134 (cap * 4) (xs.map (·.1)).flatten) (hn : xs.length ≤ cap) (hbig : cap ≤ 9223372036854775807) (hun : ∀ x ∈ xs, x.1.length = 4) (h1c : ∀ x ∈ xs, ∀ v ∈ x.1, v.oneCell' = true) (kk : Int)
    (hk : (kk = -1 ∧ ∀ x ∈ xs, x.2 = false) ∨ ∃ k0 : Nat, kk = k0 ∧ ∃ h : k0 < xs.length, xs[k0].2 = true ∧ ∀ j (hj : j < xs.length), j < k0 → xs[j].2 = false)
    (eg : ∀ args w, (callFunc g args).run Try.prog w = .ok (.enter g args) w)
    (hIF : Calls Try.prog 99 #[.slice (some ⟨b, 0, none⟩) xs.length cap, .func (.func g) #[] lb] w fun e w' => e = .returned (.int .i64 kk) ∧ Below w.heap.size w w')
    (hp : ∀ W F x, x ∈ xs → RowAt w W b 134 (cap * 4) F → Calls Try.prog g (#[.agg x.1.toArray] ++ lb) W fun e w' => e = .returned (.bool x.2) ∧ Below W.heap.size W w') :
    Calls Try.prog 164 #[.slice (some ⟨b, 0, none⟩) xs.length cap, .func (.func g) #[] lb] w fun e w' =>
      e = .returned (.slice (some ⟨b, 0, none⟩) (xs.filter fun x => !x.2).length cap) ∧ ∃ G, RowAt w w' b 134 (cap * 4) (((xs.filter fun x => !x.2).map (·.1)).flatten ++ G) := by
  have e6 := Try.call99
  rcases hk with ⟨rfl, hall⟩ | ⟨k0, rfl, hk0, ht, hall⟩
  · have hkeep : (xs.filter fun x => !x.2) = xs := List.filter_eq_self.2 fun x hx => by rw [hall x hx]; rfl
    rw [hkeep]
    have HR : Aside (RowAt w w b 134 (cap * 4) (xs.map (·.1)).flatten) := hR
    clear hR hp h1c hun
    go_enter Try.func164, Try.ntmps164
    go_wp2_with fail
    refine hIF.mono ?_
    rintro e w' ⟨rfl, hb⟩
    go_wp2
    go_ret
    exact ⟨rfl, [], by simpa using HR.out.behind hb⟩
  · have hne1 : ((k0 : Int) == -1) = false := beq_eq_false_iff_ne.2 (by omega)
    have HS : Aside (DelK 4 xs k0 (k0 + 1) (xs.map (·.1)).flatten) := DelK.start hun hk0 hall ht
    have HR : Aside (RowAt w w b 134 (cap * 4) (xs.map (·.1)).flatten) := hR
    have HC : Aside _ := hp
    have HO : Aside _ := h1c
    clear hR hp ht hall h1c hun
    go_enter Try.func164, Try.ntmps164
    go_wp2_with fail
    refine hIF.mono ?_
    rintro e w' ⟨rfl, hb⟩
    go_wp2
    go_loopg [5, 6, 7] xs.length (fun gg s5 s6 _ wr => ∃ (i j : Nat) (F : List Value), s5 = .int .i64 i ∧ s6 = .int .i64 j ∧ j ≤ xs.length ∧ xs.length - j ≤ gg ∧ Aside (RowAt w wr b 134 (cap * 4) F) ∧ Aside (DelK 4 xs i j F))
    case atStart => exact ⟨k0, k0 + 1, _, rfl, by go_num, by omega, by omega, HR.out.behind hb, HS⟩
    case round =>
      obtain ⟨i, j, F, rfl, rfl, hjd, hgg, R2, I2⟩ := hrel
      have hI := I2.out
      have hlF := hI.len
      have hij := hI.ij
      by_cases hlt : j < xs.length
      · have hltz : (j : Int) < (xs.length : Int) := by omega
        obtain ⟨v0, v1, v2, v3, hu⟩ : ∃ v0 v1 v2 v3, xs[j].1 = [v0, v1, v2, v3] := by
          have := hI.un xs[j] (List.getElem_mem hlt)
          match hq : xs[j].1, this with
          | [v0, v1, v2, v3], _ => exact ⟨v0, v1, v2, v3, rfl⟩
        have c0 : wr.cell? ⟨b, j * 4, none⟩ = some v0 := R2.out.cell (hI.at hlt (t := 0) (by rw [hu]; rfl))
        have c1 : wr.cell? ⟨b, j * 4 + 1, none⟩ = some v1 := R2.out.cell (hI.at hlt (t := 1) (by rw [hu]; rfl))
        have c2 : wr.cell? ⟨b, j * 4 + 2, none⟩ = some v2 := R2.out.cell (hI.at hlt (t := 2) (by rw [hu]; rfl))
        have c3 : wr.cell? ⟨b, j * 4 + 3, none⟩ = some v3 := R2.out.cell (hI.at hlt (t := 3) (by rw [hu]; rfl))
        have o0 : v0.oneCell' = true := HO.out xs[j] (List.getElem_mem hlt) v0 (by rw [hu]; simp)
        have s0 := fun (W : World) (a : Addr) (m : Mode) => run_store Try.prog W a v0 m o0
        have o1 : v1.oneCell' = true := HO.out xs[j] (List.getElem_mem hlt) v1 (by rw [hu]; simp)
        have s1 := fun (W : World) (a : Addr) (m : Mode) => run_store Try.prog W a v1 m o1
        have o2 : v2.oneCell' = true := HO.out xs[j] (List.getElem_mem hlt) v2 (by rw [hu]; simp)
        have s2 := fun (W : World) (a : Addr) (m : Mode) => run_store Try.prog W a v2 m o2
        have o3 : v3.oneCell' = true := HO.out xs[j] (List.getElem_mem hlt) v3 (by rw [hu]; simp)
        have s3 := fun (W : World) (a : Addr) (m : Mode) => run_store Try.prog W a v3 m o3
        have C : Aside (xs[j].1 = [v0, v1, v2, v3]) := hu
        have hcall := HC.out (wr.alloc (.cells #[v0, v1, v2, v3] 134)) F xs[j] (List.getElem_mem hlt) (R2.out.behind (below_alloc wr _))
        rw [hu] at hcall
        clear hu hI
        cases hq : xs[j].2 with
        | false =>
          rw [hq] at hcall
          go_wp2_with fail
          refine hcall.mono ?_
          rintro e w'' ⟨rfl, hb'⟩
          have d0 : w''.cell? ⟨wr.heap.size, 0, none⟩ = some v0 := box_cell hb' rfl
          have d1 : w''.cell? ⟨wr.heap.size, 1, none⟩ = some v1 := box_cell hb' rfl
          have d2 : w''.cell? ⟨wr.heap.size, 2, none⟩ = some v2 := box_cell hb' rfl
          have d3 : w''.cell? ⟨wr.heap.size, 3, none⟩ = some v3 := box_cell hb' rfl
          have R3 := (R2.out.behind (below_alloc wr _)).behind hb'
          have hil : i * 4 + 4 ≤ F.length := by
            have : (i + 1) * 4 ≤ xs.length * 4 := Nat.mul_le_mul_right _ (by omega)
            rw [hlF]; rw [Nat.add_mul] at this; omega
          have e0' := R3.cell (List.getElem?_eq_getElem (show i * 4 < F.length by omega))
          have f0' := R3.frozen (i * 4)
          have e1' := R3.cell (List.getElem?_eq_getElem (show i * 4 + 1 < F.length by omega))
          have f1' := R3.frozen (i * 4 + 1)
          have e2' := R3.cell (List.getElem?_eq_getElem (show i * 4 + 2 < F.length by omega))
          have f2' := R3.frozen (i * 4 + 2)
          have e3' := R3.cell (List.getElem?_eq_getElem (show i * 4 + 3 < F.length by omega))
          have f3' := R3.frozen (i * 4 + 3)
          have A3 : Aside (RowAt w w'' b 134 (cap * 4) F) := R3
          have hbn : ¬ (b = wr.heap.size) := by have := R2.out.lt; omega
          clear R3
          generalize F[i * 4] = old0 at e0'
          generalize F[i * 4 + 1] = old1 at e1'
          generalize F[i * 4 + 2] = old2 at e2'
          generalize F[i * 4 + 3] = old3 at e3'
          go_wp2
          go_roundg (xs.length - (j + 1))
          case measure => omega
          case rel =>
            refine ⟨i + 1, j + 1, F.take (i * 4) ++ xs[j].1 ++ F.drop (i * 4 + xs[j].1.length), by go_num, by go_num, by omega, Nat.le_refl _, (show Aside _ from ?_), (show Aside _ from ?_)⟩
            · rw [C.out]
              have h := A3.out.set [v0, v1, v2, v3] (s := i * 4) (by omega) (by have := A3.out.le; simp; omega)
              exact h
            · exact I2.out.keep hlt hq
        | true =>
          rw [hq] at hcall
          go_wp2_with fail
          refine hcall.mono ?_
          rintro e w'' ⟨rfl, hb'⟩
          go_wp2
          go_roundg (xs.length - (j + 1))
          case measure => omega
          case rel => exact ⟨i, j + 1, F, rfl, by go_num, by omega, Nat.le_refl _, (R2.out.behind (below_alloc wr _)).behind hb', I2.out.skip hlt hq⟩
      · obtain rfl : j = xs.length := by omega
        have hltz : ¬ (xs.length : Int) < (xs.length : Int) := by omega
        have hRN := R2.out.le
        obtain ⟨hlo, hil⟩ := hI.fin
        have hle : i * 4 ≤ xs.length * 4 := Nat.mul_le_mul_right _ (by omega)
        have hsub : (xs.length - i) * 4 = xs.length * 4 - i * 4 := Nat.sub_mul ..
        have hzl := zeroCells_len (.agg #[.string ⟨#[]⟩, .int .i64 0, .int .i64 0, .string ⟨#[]⟩] : Value).cells (xs.length - i)
        have hzs : (.agg #[.string ⟨#[]⟩, .int .i64 0, .int .i64 0, .string ⟨#[]⟩] : Value).cells.size = 4 := rfl
        rw [hzs] at hzl
        have hcl : ∀ ty, (Builtin.clear_ #[56] ty #[.slice (some ⟨b, i * 4, none⟩) (xs.length - i) (cap - i)]).run Try.prog wr = .ok (.tuple #[]) (wr.setCells b (i * 4) (Builtin.zeroCells (.agg #[.string ⟨#[]⟩, .int .i64 0, .int .i64 0, .string ⟨#[]⟩] : Value).cells (xs.length - i)).toList) :=
          fun ty => run_clear_k wr _ _ ty _ Try.underlying56 (fun w => Try.zeroValue134 w) b (i * 4) _ _ (by omega) (fun t ht => R2.out.there (by rw [hzs] at ht; omega)) (fun t ht => R2.out.frozen _) (zeroCells_one (by intro v hv; simp [Value.cells] at hv; rcases hv with rfl | rfl | rfl | rfl <;> rfl) _)
        have HE : Aside (∃ G, RowAt w (wr.setCells b (i * 4) (Builtin.zeroCells (.agg #[.string ⟨#[]⟩, .int .i64 0, .int .i64 0, .string ⟨#[]⟩] : Value).cells (xs.length - i)).toList) b 134 (cap * 4) (((xs.filter fun x => !x.2).map (·.1)).flatten ++ G)) := by
          have := R2.out.set (Builtin.zeroCells (.agg #[.string ⟨#[]⟩, .int .i64 0, .int .i64 0, .string ⟨#[]⟩] : Value).cells (xs.length - i)).toList (s := i * 4) (by omega) (by rw [hzl]; omega)
          rw [hlo, List.append_assoc] at this
          exact ⟨_, this⟩
        have HL : Aside (i = (xs.filter fun x => !x.2).length) := hil
        clear hil hlo hle hI hzl
        go_wp2
        go_ret
        exact ⟨by rw [← HL.out]; rfl, HE.out⟩

set_option maxHeartbeats 4000000 in
set_option maxRecDepth 1000000 in
theorem delAttr_none (ao : Option Addr) (n cap : Nat) (w : World) (g : Nat) (lb : Array Value)
    (hIF : Calls Try.prog 99 #[.slice ao n cap, .func (.func g) #[] lb] w fun e w' => e = .returned (.int .i64 (-1)) ∧ Below w.heap.size w w') :
    Calls Try.prog 164 #[.slice ao n cap, .func (.func g) #[] lb] w fun e w' => e = .returned (.slice ao n cap) ∧ Below w.heap.size w w' := by
  have e6 := Try.call99
  go_enter Try.func164, Try.ntmps164
  go_wp2_with fail
  refine hIF.mono ?_
  rintro e w' ⟨rfl, hb⟩
  go_wp2
  go_ret
  exact ⟨rfl, hb⟩

end Go.Proofs.Yteganoldfldlhaa
