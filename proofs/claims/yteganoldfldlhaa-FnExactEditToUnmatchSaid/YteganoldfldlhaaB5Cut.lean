/-
  A cut: what a piece of code has done is told once, in the words given; all branches of the piece meet there.
-/
import Derived.Test.YteganoldfldlhaaL3
set_option linter.all false
namespace Go.Sx
open Go Go.RowKit
def cutK (G : St) (F : Ex → St → Prop) : Ex → St → Prop
  | .normal, s => s.le G ∧ G.okB = true
  | .exit j, s => F (.exit j) s
  | .ret, s => F .ret s
def cutG (c : Code) (st : St) (M : List (Nat × SV)) (H : List (Nat × HB)) : St := ⟨mds (fgt st.t (dsts c)) M, mhs st.h H⟩
section
variable {P : Program} {C : Ctx} {ks : List Kn} {F : Ex → St → Prop} {st : St}
theorem WP_cut {c c2 : Code} (M : List (Nat × SV)) (H : List (Nat × HB)) (h1 : WP P C c (kont P C [] (cutK (cutG c st M H) (kont P C (.code c2 :: ks) F))) st) (h2 : WP P C c2 (kont P C ks F) (cutG c st M H)) : WP P C c (kont P C (.code c2 :: ks) F) st := fun g V a w hr =>
  wp_mono (h1 g V a w hr) fun e a w q => by
    cases e with
    | normal =>
      obtain ⟨g, V, s, hs, hle, hok⟩ := q
      exact ⟨_, V, _, hs.forget hle hok, h2⟩
    | exit j => obtain ⟨g, V, s, hs, q⟩ := q; exact ⟨g, V, s, hs, q⟩
    | ret => obtain ⟨g, V, s, hs, q⟩ := q; exact ⟨g, V, s, hs, q⟩
    | goto l => exact q.elim
    | panic ch => exact q.elim
    | outgrown => exact q.elim
theorem cut_done {G s : St} (h : s.le G) (hb : G.okB = true) : cutK G F .normal s := ⟨h, hb⟩
theorem cut_ret {G s : St} (h : F .ret s) : cutK G F .ret s := h
theorem cut_exit {G s : St} {j : Nat} (h : F (.exit j) s) : cutK G F (.exit j) s := h
end
attribute [go_sem] cutG
end Go.Sx
