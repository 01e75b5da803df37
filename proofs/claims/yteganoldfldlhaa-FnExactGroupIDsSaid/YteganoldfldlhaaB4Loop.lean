/-
  Loops whose state is reckoned from the state at hand: what the body writes is forgotten, then what the annotation says is laid over it.
-/
import Derived.Test.YteganoldfldlhaaB3Fn
set_option linter.all false
namespace Go.Sx
open Go Go.RowKit

def dsO : List Oper → List Nat
  | [] => []
  | o :: os => match o.dst with
    | some d => d :: dsO os
    | none => dsO os
def dsts : Code → List Nat
  | .region _ ops _ => dsO ops.toList
  | .seq a b => dsts a ++ dsts b
  | .cond _ a b => dsts a ++ dsts b
  | .block _ c => dsts c
  | .loop c => dsts c
  | _ => []
def fgt : List SV → List Nat → List SV
  | l, [] => l
  | l, n :: ns => fgt (setN l n (.o .u)) ns
def mds : List SV → List (Nat × SV) → List SV
  | l, [] => l
  | l, x :: r => mds (setN l x.1 x.2) r
def mhs : List HB → List (Nat × HB) → List HB
  | l, [] => l
  | l, x :: r => mhs (setH l x.1 x.2) r
def loopI {α : Type} (body : Code) (st : St) (M : α → List (Nat × SV)) (H : α → List (Nat × HB)) (a : α) : St := ⟨mds (fgt st.t (dsts body)) (M a), mhs st.h (H a)⟩

section
variable {P : Program} {C : Ctx} {ks : List Kn} {F : Ex → St → Prop} {st : St}
theorem WP_lp {body : Code} {α : Type} (M : α → List (Nat × SV)) (H : α → List (Nat × HB)) (Q : α → Prop) (μ : α → Nat) (x : α) (hok : ∀ x, (loopI body st M H x).okB = true) (h0 : st.le (loopI body st M H x)) (hq : Q x)
    (round : ∀ x, Q x → WP P C body (kont P C [] (loopK (loopI body st M H) Q μ x (kont P C ks F))) (loopI body st M H x)) : WP P C (.loop body) (kont P C ks F) st :=
  WP_loop (loopI body st M H) Q μ x hok h0 hq round
theorem L_ret {α : Type} {I : α → St} {Q : α → Prop} {μ : α → Nat} {x : α} (h : F .ret st) : loopK I Q μ x F .ret st := h
theorem L_exit {α : Type} {I : α → St} {Q : α → Prop} {μ : α → Nat} {x : α} {j : Nat} (h : F (.exit j) st) : loopK I Q μ x F (.exit j) st := h
theorem L_next {α : Type} {I : α → St} {Q : α → Prop} {μ : α → Nat} {x : α} (y : α) (h : st.le (I y)) (hq : Q y) (hm : μ y < μ x) : loopK I Q μ x F .normal st := ⟨y, h, hq, hm⟩
end
end Go.Sx
