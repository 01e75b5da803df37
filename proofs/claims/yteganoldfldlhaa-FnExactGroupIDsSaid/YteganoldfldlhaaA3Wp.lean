/-
  The walk over the symbolic state: code, continuations, loops, contracts.
-/
import Derived.Test.YteganoldfldlhaaA2Rel
set_option linter.all false
namespace Go.Sx
open Go Go.RowKit

inductive Ex where
  | normal
  | exit (id : Nat)
  | ret

section
variable (P : Program) (C : Ctx)

def Post (F : Ex → St → Prop) : Exit → Act → World → Prop
  | .normal, a, w => ∃ g V st, Rel C g V st a w ∧ F .normal st
  | .exit id, a, w => ∃ g V st, Rel C g V st a w ∧ F (.exit id) st
  | .ret, a, w => ∃ g V st, Rel C g V st a w ∧ F .ret st
  | _, _, _ => False

/-- From every state that the symbolic state describes the code runs to an end that F describes. -/
def WP (c : Code) (F : Ex → St → Prop) (st : St) : Prop := ∀ g V a w, Rel C g V st a w → c.wp P (Post C F) a w

inductive Kn where
  | code (c : Code)
  | blk (id : Nat)

/-- What is still to be walked. -/
def kont : List Kn → (Ex → St → Prop) → Ex → St → Prop
  | [], F => F
  | .code c :: ks, F => fun e st => match e with
    | .normal => WP P C c (kont ks F) st
    | .exit j => kont ks F (.exit j) st
    | .ret => kont ks F .ret st
  | .blk id :: ks, F => fun e st => match e with
    | .normal => kont ks F .normal st
    | .exit j => if j = id then kont ks F .normal st else kont ks F (.exit j) st
    | .ret => kont ks F .ret st
end

section
variable {P : Program} {C : Ctx} {ks : List Kn} {F : Ex → St → Prop} {st : St}

theorem WP.imp {c : Code} {F G : Ex → St → Prop} (h : WP P C c F st) (hi : ∀ e s, F e s → G e s) : WP P C c G st := fun g V a w hr =>
  wp_mono (h g V a w hr) fun e a w q => by
    cases e with
    | normal => obtain ⟨g, V, s, h1, h2⟩ := q; exact ⟨g, V, s, h1, hi _ _ h2⟩
    | exit id => obtain ⟨g, V, s, h1, h2⟩ := q; exact ⟨g, V, s, h1, hi _ _ h2⟩
    | ret => obtain ⟨g, V, s, h1, h2⟩ := q; exact ⟨g, V, s, h1, hi _ _ h2⟩
    | goto l => exact q.elim
    | panic ch => exact q.elim
    | outgrown => exact q.elim

theorem WP_seq {x y : Code} (h : WP P C x (kont P C (.code y :: ks) F) st) : WP P C (.seq x y) (kont P C ks F) st := fun g V a w hr =>
  wp_seq (wp_mono (h g V a w hr) fun e a w q => by
    cases e with
    | normal => obtain ⟨g, V, s, h1, h2⟩ := q; exact h2 g V a w h1
    | exit id => exact q
    | ret => exact q
    | goto l => exact q.elim
    | panic ch => exact q.elim
    | outgrown => exact q.elim)
theorem WP_block {id : Nat} {c : Code} (h : WP P C c (kont P C (.blk id :: ks) F) st) : WP P C (.block id c) (kont P C ks F) st := fun g V a w hr =>
  wp_block (wp_mono (h g V a w hr) fun e a w q => by
    cases e with
    | normal => exact q
    | exit j =>
      obtain ⟨g, V, s, h1, h2⟩ := q
      simp only [Exit.inBlock]
      simp only [kont] at h2
      split
      · rw [if_pos ‹_›] at h2; exact ⟨g, V, s, h1, h2⟩
      · rw [if_neg ‹_›] at h2; exact ⟨g, V, s, h1, h2⟩
    | ret => exact q
    | goto l => exact q.elim
    | panic ch => exact q.elim
    | outgrown => exact q.elim)
theorem WP_skip (h : kont P C ks F .normal st) : WP P C .skip (kont P C ks F) st := fun g V _ _ hr => wp_skip ⟨g, V, st, hr, h⟩
theorem WP_exit {id : Nat} (h : kont P C ks F (.exit id) st) : WP P C (.exit id) (kont P C ks F) st := fun g V _ _ hr => wp_exit ⟨g, V, st, hr, h⟩
theorem WP_ret (h : kont P C ks F .ret st) : WP P C .ret (kont P C ks F) st := fun g V _ _ hr => wp_ret ⟨g, V, st, hr, h⟩
theorem K_code {c : Code} (h : WP P C c (kont P C ks F) st) : kont P C (.code c :: ks) F .normal st := h
theorem K_blk {id : Nat} (h : kont P C ks F .normal st) : kont P C (.blk id :: ks) F .normal st := h
theorem K_code_ret {c : Code} (h : kont P C ks F .ret st) : kont P C (.code c :: ks) F .ret st := h
theorem K_blk_ret {id : Nat} (h : kont P C ks F .ret st) : kont P C (.blk id :: ks) F .ret st := h
theorem K_code_exit {c : Code} {j : Nat} (h : kont P C ks F (.exit j) st) : kont P C (.code c :: ks) F (.exit j) st := h
theorem K_blk_exit_same {id : Nat} (h : kont P C ks F .normal st) : kont P C (.blk id :: ks) F (.exit id) st := by simp only [kont, if_true]; exact h
theorem K_blk_exit_other {id j : Nat} (hn : j ≠ id) (h : kont P C ks F (.exit j) st) : kont P C (.blk id :: ks) F (.exit j) st := by simp only [kont, if_neg hn]; exact h
theorem K_nil {e : Ex} (h : F e st) : kont P C [] F e st := h

/-- Forgetting, in a goal. -/
theorem WP.forget {c : Code} {F : Ex → St → Prop} {st' : St} (h : st.le st') (hb : (st'.t.all (·.below st'.h.length) && st'.h.all (·.below st'.h.length)) = true) (k : WP P C c F st') : WP P C c F st :=
  fun _ V a w hr => k _ V a w (hr.forget h hb)

def St.okB (s : St) : Bool := s.t.all (·.below s.h.length) && s.h.all (·.below s.h.length)

/-- The end of a round. -/
def loopK {α : Type} (I : α → St) (Q : α → Prop) (μ : α → Nat) (x : α) (F : Ex → St → Prop) : Ex → St → Prop
  | .normal, st => ∃ y, st.le (I y) ∧ Q y ∧ μ y < μ x
  | .exit j, st => F (.exit j) st
  | .ret, st => F .ret st

/-- A loop: its states I x (x: what the rounds turn), where Q holds; a measure. -/
theorem WP_loop {body : Code} {α : Type} (I : α → St) (Q : α → Prop) (μ : α → Nat) (x : α) (hok : ∀ x, (I x).okB = true) (h0 : st.le (I x)) (hq : Q x)
    (round : ∀ x, Q x → WP P C body (kont P C [] (loopK I Q μ x (kont P C ks F))) (I x)) : WP P C (.loop body) (kont P C ks F) st := by
  intro g V a w hr b k cs
  have key : ∀ n x, μ x = n → Q x → ∀ g V a w, Rel C g V (I x) a w →
      ∃ e a' w', Post C (kont P C ks F) e a' w' ∧ Arrives P (lone (b.at a (.code body :: .inLoop body :: k)) cs w) b k cs e a' w' := by
    intro n
    induction n using Nat.strongRecOn with
    | _ n ih =>
      intro x hn hq g V a w hr
      obtain ⟨e, a₁, w₁, hp, harr⟩ := round x hq g V a w hr b (.inLoop body :: k) cs
      cases e with
      | normal =>
        obtain ⟨g', V', s, h1, y, hle, hqy, hlt⟩ := hp
        obtain ⟨e₂, a₂, w₂, hq₂, harr₂⟩ := ih (μ y) (by omega) y rfl hqy _ V' a₁ w₁ (h1.forget hle (hok y))
        exact ⟨e₂, a₂, w₂, hq₂, .of_steps (Steps.trans harr (.one step_inLoop)) harr₂⟩
      | exit id =>
        have hp' : Post C (kont P C ks F) (.exit id) a₁ w₁ := by obtain ⟨g', V', s, h1, h2⟩ := hp; exact ⟨g', V', s, h1, h2⟩
        exact ⟨_, a₁, w₁, hp', .pass (x := .inLoop body) rfl (fun _ _ => .inl (by simp)) harr⟩
      | goto l => exact hp.elim
      | ret =>
        have hp' : Post C (kont P C ks F) .ret a₁ w₁ := by obtain ⟨g', V', s, h1, h2⟩ := hp; exact ⟨g', V', s, h1, h2⟩
        exact ⟨_, a₁, w₁, hp', .pass (x := .inLoop body) rfl (fun _ _ => .inl (by simp)) harr⟩
      | panic ch => exact hp.elim
      | outgrown => exact hp.elim
  obtain ⟨e, a', w', hq', harr⟩ := key _ x rfl hq _ V a w (hr.forget h0 (hok x))
  exact ⟨e, a', w', hq', .of_steps (.one step_loop) harr⟩
end

/-! ### Contracts -/

/-- A row in memory: what a slice in new memory is. -/
def RowR (V : View) (w : World) (ty sz : Nat) (rows : List (List D)) (y : Value) (S : List Nat) : Prop :=
  (∀ r ∈ rows, r.length = sz) ∧ ∃ ys Ss, LayL V rows.flatten ys Ss ∧
    (((∃ ao, y = .slice ao 0 0) ∧ rows = [] ∧ S = []) ∨
     ∃ b cap c, y = .slice (some ⟨b, 0, none⟩) rows.length cap ∧ rows.length ≤ cap ∧ cap ≤ maxLen ∧ w.heap[b]? = some (.cells c ty (0, 0)) ∧ c.size = cap * sz ∧ ys <+: c.toList ∧ V b = none ∧ S = b :: Ss.flatten)

/-- What a cell of a result is; the last argument: the blocks that are the caller's own now. -/
def rAt (V : View) (w : World) : At → Value → List Nat → Prop
  | .d x, y, S => S = [] ∧ ∃ T, Lay V x y T
  | .w ty sz rows, y, S => RowR V w ty sz rows y S
  | _, _, _ => False
def rL (V : View) (w : World) (cs : List At) (l : List Value) (S : List Nat) : Prop :=
  ∃ Ss : List (List Nat), l.length = cs.length ∧ Ss.length = cs.length ∧ S = Ss.flatten ∧ ∀ (k : Nat) (a : At) (y : Value) (s : List Nat), cs[k]? = some a → l[k]? = some y → Ss[k]? = some s → rAt V w a y s
/-- The cells of all components of a result, one behind the other. -/
def SV.all : SV → List At
  | .o a => [a]
  | .g cs => cs
  | .t l => l.flatMap (·.2)
/-- The values of the components: their cells, one behind the other. -/
def shapeOf : SV → List Value → Value → Prop
  | .o _, l, y => l = [y]
  | .g _, l, y => y = .agg l.toArray
  | .t cs, l, y => ∃ ls : List (List Value), ls.length = cs.length ∧ l = ls.flatten ∧ (∀ (k : Nat) (b : Bool) (c : List At) (m : List Value), cs[k]? = some (b, c) → ls[k]? = some m → m.length = c.length) ∧
      ∃ ys : List Value, y = .tuple ys.toArray ∧ ys.length = cs.length ∧ ∀ (k : Nat) (b : Bool) (c : List At) (m : List Value) (v : Value), cs[k]? = some (b, c) → ls[k]? = some m → ys[k]? = some v → if b then v = .agg m.toArray else m = [v]
def rSV (V : View) (w : World) (s : SV) (y : Value) (S : List Nat) : Prop := ∃ l, shapeOf s l y ∧ rL V w s.all l S

/-- Arguments that are data. -/
def cArgs (V : View) (args : List SV) (vs : List Value) : Prop := vs.length = args.length ∧ ∀ (k : Nat) (s : SV) (y : Value), args[k]? = some s → vs[k]? = some y → cSV [] V s y

structure Done (V : View) (w : World) (res : SV) (y : Value) (w' : World) : Prop where
  out : ∃ V' S, V.le V' ∧ Mod V' w' ∧ (∀ b cs, V' b = some cs → V b = none → w.heap.size ≤ b ∧ Unf w' b) ∧ rSV V' w' res y S ∧ S.Nodup ∧ ∀ b ∈ S, w.heap.size ≤ b ∧ b < w'.heap.size
  below : Below w.heap.size w w'

/-- The contract of a function: on arguments that read as 'args' it returns what reads as 'res'; what was there is as it was. -/
structure FnC (P : Program) (f : Nat) (args : List SV) (res : SV) : Prop where
  enters : ∀ as w, (callFunc f as).run P w = .ok (.enter f as) w
  calls : ∀ V w vs, Mod V w → cArgs V args vs → Calls P f vs.toArray w fun e w' => ∃ y, e = .returned y ∧ Done V w res y w'
end Go.Sx
